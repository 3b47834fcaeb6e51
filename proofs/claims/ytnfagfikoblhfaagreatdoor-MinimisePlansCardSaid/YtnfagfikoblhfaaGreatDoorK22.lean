/- A part of the proof: trees of Go values, short forms, contracts. -/
import Derived.Test.YtnfagfikoblhfaaGreatDoorK21
namespace Go.Proofs
open Go Go.TL
set_option maxRecDepth 4000
set_option maxHeartbeats 8000000
theorem jr5 {n:Nat} {p:Nat→Nat→Bool} (h:qa3 n p=true) {i k:Nat} (hi:i<n) (hk:k<n) (hne:i≠k):p (max i k) (min i k)=true:=by
 rcases Nat.lt_or_gt_of_ne hne with q | q
 ·rw[show max i k=k by omega,show min i k=i by omega];exact qw5.1 h k hk i q
 ·rw[show max i k=i by omega,show min i k=k by omega];exact qw5.1 h i hi k q
theorem zU5 {n:Nat} {p:Nat→Nat→Bool} (h:qa3 n p=false):∃ i k,i<n∧k<i∧p i k=false:=by
 refine AQ fun hn=>?_;have:qa3 n p=true:=qw5.2 fun i hi k hk=>by
  cases e:p i k with
  | true=>rfl
  | false=>exact absurd ⟨i,k,hi,hk,e⟩ hn
 rw[this] at h;cases h
theorem zC5 {s:Sch} {c:Cnd} {v:Int} (o:c.op=4):zg s c v=tf (v==zn):=by
 unfold zg;rw[Aq (show ¬ c.op=2 by omega),Aq (show ¬ c.op=3 by omega),Aj o]
theorem zY9 {s:Sch} {c:Cnd} {v:Int} (o:c.op=3):zg s c v=if v=zn then 0 else tf (decide (c.lo≤v)&&decide (v≤c.hi)):=by
 unfold zg;rw[Aq (show ¬ c.op=2 by omega),Aj o]
theorem jQ2 {s:Sch} (hE:schE s=0) {c:Cnd} (hnd:NdOk s c) (hia:isAt c=true) {lev:Nat} (hl:(lev:Int)≤finI s c.col) (hd:decB s c lev=true) {a b:Int} (ha:qT s c.col.toNat a=true) (hb:qT s c.col.toNat b=true) (h:qk s c.col lev a=qk s c.col lev b):zg s c a=zg s c b:=by
 obtain⟨_,c1,c2,hfin⟩:=yc (s:=s) (c:=c.col) oM;obtain⟨i,hci⟩:=AJ (show 0≤c.col by omega);have hcn:c.col.toNat=i:=by omega
 have hil:i<s.cols.length:=by omega
 have hok:=qV hE;have hop:c.op=2∨c.op=3∨c.op=4:=by
  unfold isAt at hia;simp only[DZ,AY] at hia;omega
 rw[hcn] at ha hb;by_cases o2:c.op=2
 ·have hk2:(qg s i).kind=2:=by have:=(zu.1 (hnd.under o2).1).2.2;rw[hcn] at this;exact this
  have ma:=(jq hok hil hk2).1 ha;have mb:=(jq hok hil hk2).1 hb;by_cases e:a=b
  ·rw[e]
  obtain⟨j,hj,rfl⟩:=CX ma;obtain⟨k,hk,rfl⟩:=CX mb;unfold decB at hd;rw[Aj o2,hcn] at hd;have hp:=jr5 hd hj hk (fun q=>e (by subst q;rfl));have key:∀ x y,x<(qE s i).length→y<(qE s i).length→decP s c lev x y=true→qk s c.col lev ((qE s i).getD x 0)=qk s c.col lev ((qE s i).getD y 0)→zg s c ((qE s i).getD x 0)=zg s c ((qE s i).getD y 0):=fun x y _ _ hp he=>by
   unfold decP at hp;rw[hcn,he] at hp;simpa using hp
  have gj:(qE s i).getD j 0=(qE s i)[j]:=qj hj;have gk:(qE s i).getD k 0=(qE s i)[k]:=qj hk;rw[← gj,← gk] at h ⊢
  rcases Nat.lt_or_ge j k with q | q
  ·rw[show max j k=k by omega,show min j k=j by omega] at hp;exact (key k j hk hj hp h.symm).symm
  ·rw[show max j k=j by omega,show min j k=k by omega] at hp;exact key j k hj hk hp h
 ·have h3:(qg s i).kind=3:=by
   rcases hop with o | o | o
   ·exact absurd o o2
   ·have:=(zu.1 (hnd.between o).1).2.2;rw[hcn] at this;exact this
   ·have:=(zu.1 (hnd.miss o).1).2.2;rw[hcn] at this;exact this
  have h2:(qg s i).kind≠2:=by omega
  have hm:=zK hE hil oM h2;have hlh:=hm.lh;rw[hci] at hl h;have hsame:1≤lev→_:=fun h1=>(JS hE hil oM h2 h1 hl ha hb).1 h;have va:=(zx h3).1 ha;have vb:=(zx h3).1 hb;unfold decB at hd;rw[Aq o2,hcn] at hd;by_cases o4:c.op=4
  ·rw[Aj o4,AZ] at hd;rw[zC5 o4,zC5 o4];rcases hsame oM with k | k
   ·rw[k.1,k.2]
   ·rw[Ak.2 k.1,Ak.2 k.2.1]
  ·have o3:c.op=3:=by omega
   rw[Aq o4] at hd;dsimp only at hd;rw[zY9 o3,zY9 o3];by_cases e0:lev=0
   ·subst e0;rw[Aj rfl] at hd;simp only[Bq,Bx,FK,Ay] at hd;have na:a≠zn:=fun e=>by
     rcases va with k | k
     ·rw[k.1] at hd;simp at hd
     ·unfold zn at e;omega
    have nb:b≠zn:=fun e=>by
     rcases vb with k | k
     ·rw[k.1] at hd;simp at hd
     ·unfold zn at e;omega
    rw[Aq na,Aq nb];have ra:(qg s i).low≤a∧a≤(qg s i).high:=va.resolve_left fun k=>na k.2;have rb:(qg s i).low≤b∧b≤(qg s i).high:=vb.resolve_left fun k=>nb k.2
    congr 1
    have e1:(c.lo≤a)↔(c.lo≤b):=by omega
    have e2:(a≤c.hi)↔(b≤c.hi):=by omega
    rw[decide_eq_decide.2 e1,decide_eq_decide.2 e2]
   ·rw[Aq e0] at hd;rcases hsame oM with k | ⟨na,nb,hbl⟩
    ·rw[k.1,k.2]
    ·rw[Aq na,Aq nb];have ra:(qg s i).low≤a∧a≤(qg s i).high:=va.resolve_left fun k=>na k.2;have rb:(qg s i).low≤b∧b≤(qg s i).high:=vb.resolve_left fun k=>nb k.2;have hf:=hm.fin;have hw:=hm.wid lev oM oM;simp only[Bq,DZ,Bx,FK,Ay,zU3] at hd
     congr 1
     have e1:(c.lo≤a)↔(c.lo≤b):=by
      rcases hd.1 with k | k
      ·omega
      ·exact zI8 oM k hbl
     have e2:(a≤c.hi)↔(b≤c.hi):=by
      rcases hd.2 with k | k
      ·omega
      ·have:=zI8 oM k hbl;omega
     rw[decide_eq_decide.2 e1,decide_eq_decide.2 e2]
theorem jQ3 {s:Sch} (hE:schE s=0) {c:Cnd} (hnd:NdOk s c) (hia:isAt c=true) {lev:Nat} (hl:(lev:Int)≤finI s c.col) (hd:decB s c lev=false):∃ a b,qT s c.col.toNat a=true∧qT s c.col.toNat b=true∧qk s c.col lev a=qk s c.col lev b∧zg s c a≠zg s c b:=by
 obtain⟨_,c1,c2,hfin⟩:=yc (s:=s) (c:=c.col) oM;obtain⟨i,hci⟩:=AJ (show 0≤c.col by omega);have hcn:c.col.toNat=i:=by omega
 have hil:i<s.cols.length:=by omega
 have hok:=qV hE;have hop:c.op=2∨c.op=3∨c.op=4:=by
  unfold isAt at hia;simp only[DZ,AY] at hia;omega
 rw[hcn];by_cases o2:c.op=2
 ·have hk2:(qg s i).kind=2:=by have:=(zu.1 (hnd.under o2).1).2.2;rw[hcn] at this;exact this
  unfold decB at hd;rw[Aj o2,hcn] at hd;obtain⟨j,k,hj,hk,hp⟩:=zU5 hd;unfold decP at hp;rw[hcn] at hp;simp only[Bz,Bq,AY,Bx,Ak] at hp;refine⟨_,_,?_,?_,hp.1,hp.2⟩
  ·rw[jq hok hil hk2,qj hj];exact AX _
  ·rw[jq hok hil hk2,qj (show k<(qE s i).length by omega)];exact AX _
 ·have h3:(qg s i).kind=3:=by
   rcases hop with o | o | o
   ·exact absurd o o2
   ·have:=(zu.1 (hnd.between o).1).2.2;rw[hcn] at this;exact this
   ·have:=(zu.1 (hnd.miss o).1).2.2;rw[hcn] at this;exact this
  have h2:(qg s i).kind≠2:=by omega
  have hm:=zK hE hil oM h2;have hlh:=hm.lh;rw[hci] at hl ⊢
  have hH:∀ v,(qg s i).low≤v→v≤(qg s i).high→qT s i v=true:=fun v h1 h2=>(zx h3).2 (.inr ⟨h1,h2⟩);have hO:(qg s i).opt=true→qT s i zn=true:=fun h=>(zx h3).2 (.inl ⟨h,rfl⟩);have hnm:∀ v,(qg s i).low≤v→v≠zn:=fun v h e=>by unfold zn at e;omega
  have hA:c.op=3→∀ v,v≠zn→zg s c v=tf (decide (c.lo≤v)&&decide (v≤c.hi)):=fun o v hv=>by unfold zg;rw[Aq o2,Aj o,Aq hv]
  have hz:∀ v,qT s i v=true→qk s i 0 v=0:=fun v hv=>ZC hE hil oM h2 hv;have htf:tf true≠tf false∧(0:Int)≠tf true∧(0:Int)≠tf false:=by decide
  unfold decB at hd;rw[Aq o2,hcn] at hd;by_cases o4:c.op=4
  ·rw[Aj o4,Ay] at hd;have e0:lev=0:=by omega
   subst e0;have hopt:=(hnd.miss o4).2;rw[hcn] at hopt;refine⟨zn,(qg s i).low,hO hopt,hH _ oM oM,?_,?_⟩
   ·show qk s i 0 _=qk s i 0 _;rw[hz _ (hO hopt),hz _ (hH _ oM oM)]
   ·rw[zC5 o4,zC5 o4,beq_self_eq_true,Ak.2 (hnm _ oM)];exact htf.1
  ·have o3:c.op=3:=by omega
   have hlohi:=(hnd.between o3).2.2.2;rw[Aq o4] at hd;dsimp only at hd;have hfst:(qg s i).low<c.lo→c.lo≤(qg s i).high→qk s i lev (c.lo-1)=qk s i lev c.lo→∃ a b,qT s i a=true∧qT s i b=true∧qk s i lev a=qk s i lev b∧zg s c a≠zg s c b:=fun g1 g2 g3=>by
    refine⟨c.lo-1,c.lo,hH _ oM oM,hH _ oM oM,g3,?_⟩;rw[hA o3 _ (hnm _ oM),hA o3 _ (hnm _ oM),Cq (show ¬ c.lo≤c.lo-1 by omega),Cx (show c.lo≤c.lo by omega),Cx (show c.lo≤c.hi by omega)];exact htf.1.symm
   have hbeh:(qg s i).low≤c.hi→c.hi<(qg s i).high→qk s i lev c.hi=qk s i lev (c.hi+1)→∃ a b,qT s i a=true∧qT s i b=true∧qk s i lev a=qk s i lev b∧zg s c a≠zg s c b:=fun g1 g2 g3=>by
    refine⟨c.hi,c.hi+1,hH _ oM oM,hH _ oM oM,g3,?_⟩;rw[hA o3 _ (hnm _ oM),hA o3 _ (hnm _ oM),Cx (show c.lo≤c.hi by omega),Cx (show c.hi≤c.hi by omega),Cq (show ¬ c.hi+1≤c.hi by omega),Bool.and_false];exact htf.1
   by_cases e0:lev=0
   ·subst e0;rw[Aj rfl] at hd;have hz2:∀ a b,qT s i a=true→qT s i b=true→qk s i ((0:Nat):Int) a=qk s i ((0:Nat):Int) b:=fun a b ha hb=>by
     show qk s i 0 _=qk s i 0 _;rw[hz _ ha,hz _ hb]
    cases hopt:(qg s i).opt with
    | true=>
      refine⟨zn,(qg s i).low,hO hopt,hH _ oM oM,hz2 _ _ (hO hopt) (hH _ oM oM),?_⟩;rw[hA o3 _ (hnm (qg s i).low oM)];unfold zg;rw[Aq o2,Aj o3,Aj rfl];cases (decide (c.lo≤(qg s i).low)&&decide ((qg s i).low≤c.hi))
      ·exact htf.2.2
      ·exact htf.2.1
    | false=>
      rw[hopt] at hd;simp only[Bool.not_false,Fj,FK,Bz,Bq,AZ] at hd;rcases hd with⟨g1,g2⟩ | ⟨g1,g2⟩
      ·exact hfst g1 g2 (hz2 _ _ (hH _ oM oM) (hH _ oM oM))
      ·exact hbeh g1 g2 (hz2 _ _ (hH _ oM oM) (hH _ oM oM))
   ·rw[Aq e0] at hd;have hf:=hm.fin;have hw:=hm.wid lev oM oM;have hno:∀ x:Int,((x.tmod (qK (qg s i) lev)==0)=false)→¬ qK (qg s i) lev ∣ x:=fun x h hdv=>by rw[zU3.2 hdv] at h;cases h
    simp only[FK,FQ,Bz,Bq,AZ] at hd;rcases hd with⟨⟨g1,g2⟩,g3⟩ | ⟨⟨g1,g2⟩,g3⟩
    ·refine hfst g1 g2 ((JS hE hil oM h2 oM hl (hH _ oM oM) (hH _ oM oM)).2 (.inr ⟨hnm _ oM,hnm _ oM,qU8 oM (hno _ g3)⟩))
    ·refine hbeh g1 g2 ((JS hE hil oM h2 oM hl (hH _ oM oM) (hH _ oM oM)).2 (.inr ⟨hnm _ oM,hnm _ oM,?_⟩));have:=qU8 (x:=c.hi+1) (w:=qK (qg s i) lev) oM (hno _ g3);rw[show c.hi+1-1=c.hi by omega] at this;exact this
theorem zp3 {v w q:Int} (hw:1≤w) (h1:q*w≤v) (h2:v<(q+1)*w):qJ v w=q:=by
 rw[qx4 oM];have a1:v / w<q+1:=Int.ediv_lt_of_lt_mul oM h2;have a2:q≤v / w:=Int.le_ediv_of_mul_le oM h1;omega
theorem qp1 {v w:Int} (hw:1≤w):v<(qJ v w+1)*w∧(qJ v w+1)*w-w≤v∧w ∣ (qJ v w+1)*w:=by
 have h:=jV (v:=v) (w:=w) oM;rw[Int.add_mul,Int.one_mul];refine⟨oM,oM,?_⟩;exact Int.dvd_add (Int.dvd_mul_left _ _) (Int.dvd_refl _)
theorem jr6 {high w wo f:Int} (h:divM high w wo 2 f=true):high<f∨(wo ∣ f∧(high<f+w∨wo ∣ f+w)):=by
 unfold divM at h;split at h
 ·left;omega
 ·split at h
  ·cases h
  ·rename_i h1 h2;right
   refine⟨Int.dvd_of_tmod_eq_zero (AQ h2),?_⟩;unfold divM at h;split at h
   ·left;omega
   ·split at h
    ·cases h
    ·rename_i h3 h4;exact .inr (Int.dvd_of_tmod_eq_zero (AQ h4))
theorem zZ0 {high w wo f:Int} (h:divM high w wo 2 f=false):(f≤high∧¬ wo ∣ f)∨(f≤high∧f+w≤high∧¬ wo ∣ f+w):=by
 unfold divM at h;split at h
 ·cases h
 ·rename_i h1;split at h
  ·rename_i h2;exact .inl ⟨oM,fun k=>h2 (Int.tmod_eq_zero_of_dvd k)⟩
  ·unfold divM at h;split at h
   ·cases h
   ·rename_i h3;split at h
    ·rename_i h4;exact .inr ⟨oM,oM,fun k=>h4 (Int.tmod_eq_zero_of_dvd k)⟩
    ·unfold divM at h;cases h
theorem jr7 {s:Sch} (hE:schE s=0) {i:Nat} (hi:i<s.cols.length) (h0:0<i) {o lev:Nat} (ho:o≤lev) (hl:(lev:Int)≤finI s i) (hd:divB s i o lev=true) {a b:Int} (ha:qT s i a=true) (hb:qT s i b=true) (h:qk s i o a=qk s i o b):qk s i lev a=qk s i lev b:=by
 by_cases e:o=lev
 ·rw[← e];exact h
 have hok:=qV hE;unfold divB at hd;rw[Aq oM] at hd;by_cases h2:(qg s i).kind=2
 ·rw[Aj h2] at hd;have ma:=(jq hok hi h2).1 ha;have mb:=(jq hok hi h2).1 hb;by_cases e:a=b
  ·rw[e]
  obtain⟨j,hj,rfl⟩:=CX ma;obtain⟨k,hk,rfl⟩:=CX mb;have hp:=jr5 hd hj hk (fun q=>e (by subst q;rfl));have key:∀ x y,divP s i (qE s i) o lev x y=true→qk s i o ((qE s i).getD x 0)=qk s i o ((qE s i).getD y 0)→qk s i lev ((qE s i).getD x 0)=qk s i lev ((qE s i).getD y 0):=fun x y hp he=>by
   unfold divP at hp;rw[he] at hp;simpa using hp
  have gj:(qE s i).getD j 0=(qE s i)[j]:=qj hj;have gk:(qE s i).getD k 0=(qE s i)[k]:=qj hk;rw[← gj,← gk] at h ⊢
  rcases Nat.lt_or_ge j k with q | q
  ·rw[show max j k=k by omega,show min j k=j by omega] at hp;exact (key k j hp h.symm).symm
  ·rw[show max j k=j by omega,show min j k=k by omega] at hp;exact key j k hp h
 ·rw[Aq h2] at hd;dsimp only at hd;have hm:=zK hE hi h0 h2;have hlh:=hm.lh;have hf:=hm.fin;have hw:=hm.wid lev oM oM;have va:=(zx hm.kind).1 ha;have vb:=(zx hm.kind).1 hb;rw[JS hE hi h0 h2 oM hl ha hb];obtain⟨f1,f2,f3⟩:=qp1 (v:=(qg s i).low) hw;have hq:=jV (v:=(qg s i).low) (w:=qK (qg s i) lev) oM;have hlow:∀ v,(qg s i).low≤v→v<(qJ (qg s i).low (qK (qg s i) lev)+1)*qK (qg s i) lev→qJ v (qK (qg s i) lev)=qJ (qg s i).low (qK (qg s i) lev):=fun v v1 v2=>zp3 hw oM v2;by_cases e0:o=0
  ·rw[Aj e0,Bq,Bx,AZ] at hd;have ra:(qg s i).low≤a∧a≤(qg s i).high:=va.resolve_left fun k=>by rw[hd.1] at k;cases k.1
   have rb:(qg s i).low≤b∧b≤(qg s i).high:=vb.resolve_left fun k=>by rw[hd.1] at k;cases k.1
   refine .inr ⟨fun e=>by unfold zn at e;omega,fun e=>by unfold zn at e;omega,?_⟩;rw[hlow a ra.1 oM,hlow b rb.1 oM]
  ·rw[Aq e0] at hd;rcases (JS hE hi h0 h2 oM oM ha hb).1 h with k | ⟨na,nb,hbl⟩
   ·exact .inl k
   ·refine .inr ⟨na,nb,?_⟩;have ra:(qg s i).low≤a∧a≤(qg s i).high:=va.resolve_left fun k=>na k.2;have rb:(qg s i).low≤b∧b≤(qg s i).high:=vb.resolve_left fun k=>nb k.2;obtain⟨k,k1,k2⟩:=hm.dv (o:=o) (l:=lev) oM oM oM;have hwo:=hm.wid o oM oM;rcases jr6 hd with g | ⟨g1,g2⟩
    ·rw[hlow a ra.1 oM,hlow b rb.1 oM]
    ·have hhi:(qg s i).high<(qJ (qg s i).low (qK (qg s i) lev)+1)*qK (qg s i) lev+qK (qg s i) lev:=by
      rcases g2 with g | g
      ·exact g
      ·exfalso
       have:qK (qg s i) o ∣ qK (qg s i) lev:=(Int.dvd_add_right g1).1 g;have h5:=Int.le_of_dvd oM this;have h6:2*qK (qg s i) lev≤k*qK (qg s i) lev:=Int.mul_le_mul_of_nonneg_right k1 oM;omega
     have hbs:=zI8 oM g1 hbl;generalize hF:(qJ (qg s i).low (qK (qg s i) lev)+1)*qK (qg s i) lev=F at *
     have hup:∀ v,F≤v→v<F+qK (qg s i) lev→qJ v (qK (qg s i) lev)=qJ (qg s i).low (qK (qg s i) lev)+1:=fun v v1 v2=>zp3 hw oM (by
      rw[Int.add_mul,hF,Int.one_mul];omega)
     by_cases q:F≤a
     ·rw[hup a q oM,hup b (hbs.1 q) oM]
     ·have q2:¬ F≤b:=fun h=>q (hbs.2 h);rw[hlow a ra.1 oM,hlow b rb.1 oM]
theorem jr8 {s:Sch} (hE:schE s=0) {i:Nat} (hi:i<s.cols.length) (h0:0<i) {o lev:Nat} (hl:(lev:Int)≤finI s i) (hd:divB s i o lev=false):∃ a b,qT s i a=true∧qT s i b=true∧qk s i o a=qk s i o b∧qk s i lev a≠qk s i lev b:=by
 have hok:=qV hE;have hne:¬ (lev=0∨lev≤o):=fun k=>by unfold divB at hd;rw[Aj k] at hd;cases hd
 unfold divB at hd;rw[Aq hne] at hd;by_cases h2:(qg s i).kind=2
 ·rw[Aj h2] at hd;obtain⟨j,k,hj,hk,hp⟩:=zU5 hd;unfold divP at hp;simp only[Bz,Bq,AY,Bx,Ak] at hp;refine⟨_,_,?_,?_,hp.2,hp.1⟩
  ·rw[jq hok hi h2,qj hj];exact AX _
  ·rw[jq hok hi h2,qj (show k<(qE s i).length by omega)];exact AX _
 ·rw[Aq h2] at hd;dsimp only at hd;have hm:=zK hE hi h0 h2;have hlh:=hm.lh;have hf:=hm.fin;have hw:=hm.wid lev oM oM;have hH:∀ v,(qg s i).low≤v→v≤(qg s i).high→qT s i v=true:=fun v h1 h2=>(zx hm.kind).2 (.inr ⟨h1,h2⟩);have hO:(qg s i).opt=true→qT s i zn=true:=fun h=>(zx hm.kind).2 (.inl ⟨h,rfl⟩);have hnm:∀ v,(qg s i).low≤v→v≠zn:=fun v h e=>by unfold zn at e;omega
  have hz:∀ v,qT s i v=true→qk s i ((0:Nat):Int) v=0:=fun v hv=>ZC hE hi h0 h2 hv;obtain⟨f1,f2,f3⟩:=qp1 (v:=(qg s i).low) hw;have key:∀ f:Int,(qg s i).low<f→f≤(qg s i).high→qK (qg s i) lev ∣ f→qk s i o (f-1)=qk s i o f→∃ a b,qT s i a=true∧qT s i b=true∧qk s i o a=qk s i o b∧qk s i lev a≠qk s i lev b:=fun f g1 g2 g3 g4=>by
   refine⟨f-1,f,hH _ oM oM,hH _ oM oM,g4,fun k=>?_⟩;rcases (JS hE hi h0 h2 oM hl (hH _ oM oM) (hH _ oM oM)).1 k with k | k
   ·exact hnm _ oM k.1
   ·exact jr3 oM g3 k.2.2
  by_cases e0:o=0
  ·subst e0;rw[Aj rfl] at hd;cases hopt:(qg s i).opt with
   | true=>
     refine⟨zn,(qg s i).low,hO hopt,hH _ oM oM,by rw[hz _ (hO hopt),hz _ (hH _ oM oM)],fun k=>?_⟩;rcases (JS hE hi h0 h2 oM hl (hO hopt) (hH _ oM oM)).1 k with k | k
     ·exact hnm _ oM k.2
     ·exact k.1 rfl
   | false=>
     rw[hopt,Bool.not_false,Fj,Ay] at hd;exact key _ f1 oM f3 (by rw[hz _ (hH _ oM oM),hz _ (hH _ oM oM)])
  ·rw[Aq e0] at hd;have hwo:=hm.wid o oM oM;have hco:∀ f:Int,(qg s i).low<f→f≤(qg s i).high→¬ qK (qg s i) o ∣ f→qk s i o (f-1)=qk s i o f:=fun f g1 g2 g3=>
    (JS hE hi h0 h2 oM oM (hH _ oM oM) (hH _ oM oM)).2 (.inr ⟨hnm _ oM,hnm _ oM,qU8 oM g3⟩)
   rcases zZ0 hd with⟨g1,g2⟩ | ⟨g1,g2,g3⟩
   ·exact key _ f1 g1 f3 (hco _ f1 g1 g2)
   ·exact key _ oM g2 (Int.dvd_add f3 (Int.dvd_refl _)) (hco _ oM g2 g3)
theorem qk7:∀ {l:List Pk} {p:Pk},p∈l→p.lev≤mxl l p.col
 | q::r,p,h=>by
   rw[mxl];rcases Ck.1 h with e | h
   ·subst e;rw[Aj rfl];omega
   ·have:=qk7 h;split <;> omega
theorem qf5:∀ {l:List Pk} {k:Int},0<mxl l k→∃ p∈l,p.col=k∧p.lev=mxl l k
 | [],k,h=>by rw[mxl] at h;omega
 | p::r,k,h=>by
   rw[mxl] at h ⊢
   by_cases e:p.col=k
   ·rw[Aj e] at h ⊢
    by_cases h2:mxl r k≤p.lev
    ·exact⟨p,sMp,e,oM⟩
    ·obtain⟨x,h3,h4,h5⟩:=qf5 (l:=r) (k:=k) oM;exact⟨x,CQ _ h3,h4,oM⟩
   ·rw[Aq e] at h ⊢
    obtain⟨x,h3,h4,h5⟩:=qf5 (l:=r) (k:=k) h;exact⟨x,CQ _ h3,h4,h5⟩
theorem zp4 {s:Sch} {q:Qst} (hq:QstOk s q) {k:Nat} (hk0:0<k) (hk:k<s.cols.length) {L:Nat} (h1:mxl (wI s q) k≤L) (h2:(L:Int)≤finI s k) {a b:Int} (ha:qT s k a=true) (hb:qT s k b=true) (h:qk s k L a=qk s k L b):jJ s q k a b=false:=by
 have hE:=hq.sch;have hge:∀ p∈wI s q,p.col=(k:Int)→p.lev≤L:=fun p hp e=>by
  have:=qk7 hp;rw[e] at this;omega
 have hdn:∀ o:Nat,o≤L→qk s k o a=qk s k o b:=fun o ho=>jQ1 hE hk hk0 ho h2 ha hb h;unfold jJ;rw[FQ,FQ];refine⟨⟨?_,?_⟩,?_⟩
 ·cases hu:usB q k with
  | false=>rfl
  | true=>
    have hf:=JQ hE (k:=k) hk0 hk;obtain⟨l1,l2,l3,_⟩:=WF (s:=s) (c:=k) hf (Int.le_refl _);have hm:(⟨k,zR s k (finI s k)⟩:Pk)∈wI s q:=by
     unfold wI;exact Dz.2 (.inl (Dz.2 (.inr (zp1.2 ⟨k,hk,hu,rfl⟩))))
    have hle:=hge _ hm rfl;dsimp only at hle;rw[Ax] at l3;have e1:=hdn (zR s k (finI s k)).toNat oM;have e2:=jr7 hE hk hk0 (o:=(zR s k (finI s k)).toNat) (lev:=(finI s k).toNat) oM oM l3 ha hb e1;rw[Int.toNat_of_nonneg hf,zU4 hE hk hk0 ha,zU4 hE hk hk0 hb] at e2;rw[e2];simp
 ·rw[List.any_eq_false];intro d hd;rw[Bq,AY,Bj];rintro ⟨e,hne⟩;obtain⟨_,p1,p2,p3,p4⟩:=qK8 (qf4 hq d hd).1;obtain⟨l1,l2,l3,_⟩:=WF (s:=s) p3 p4;have hm:(⟨d.col,zR s d.col d.lev⟩:Pk)∈wI s q:=by
   unfold wI;exact Dz.2 (.inl (Dz.2 (.inl (Cj.2 ⟨d,hd,rfl⟩))))
  have hle:=hge _ hm e;dsimp only at hle;rw[e] at l1 l2 l3 hle p4;rw[Ax] at l3;have e1:=hdn (zR s k d.lev).toNat oM;have e2:=jr7 hE hk hk0 (o:=(zR s k d.lev).toNat) (lev:=d.lev.toNat) oM oM l3 ha hb e1;rw[Int.toNat_of_nonneg p3] at e2;exact hne e2
 ·rw[List.any_eq_false];intro c hc;rw[Bool.not_eq_true,List.any_eq_false];intro x hx;rw[Bq,AY,Bj];rintro ⟨e,hne⟩;have hck:=qU6 hq c hc;obtain⟨_,_,_,k4⟩:=JI hck;obtain⟨hnd,hia⟩:=qk3 c k4 x hx;obtain⟨n1,n2,n3⟩:=Wx hE hnd hia;have hm1:(⟨x.col,decN s x⟩:Pk)∈atP s c:=Cj.2 ⟨x,hx,rfl⟩;have hle:(decN s x:Int)≤L:=by
   have h3:=qk7 hm1;dsimp only at h3;rw[e,← zC3 hck] at h3;have h4:mxl (ji s c) k≤mxl (wI s q) k:=by
    refine qU7 (JP _ _) fun p hp e=>?_;have:p∈wI s q:=by unfold wI;exact Dz.2 (.inr (Ew.2 ⟨c,hc,hp⟩))
    have:=qk7 this;rw[e] at this;exact this
   omega
  refine hne (jQ2 hE hnd hia n1 n2 (by rw[e,Ax];exact ha) (by rw[e,Ax];exact hb) ?_);rw[e];exact hdn (decN s x) oM
theorem zU6 {s:Sch} {q:Qst} (hq:QstOk s q) {k:Nat} (hk0:0<k) (hk:k<s.cols.length) (h:0<mxl (wI s q) k):∃ a b,qT s k a=true∧qT s k b=true∧qk s k (mxl (wI s q) k-1) a=qk s k (mxl (wI s q) k-1) b∧jJ s q k a b=true:=by
 have hE:=hq.sch;obtain⟨p,hp,e1,e2⟩:=qf5 h;generalize mxl (wI s q) k=M at h e2 ⊢
 subst e2;unfold wI at hp;rcases Dz.1 hp with hp | hp
 ·rcases Dz.1 hp with hp | hp
  ·obtain⟨d,hd,rfl⟩:=Cj.1 hp;dsimp only at e1 h ⊢
   obtain⟨_,p1,p2,p3,p4⟩:=qK8 (qf4 hq d hd).1;obtain⟨l1,l2,l3,l4⟩:=WF (s:=s) p3 p4;have hno:=l4 (zR s d.col d.lev-1).toNat oM;rw[e1,Ax] at hno;rw[e1] at h l1 p4 ⊢
   obtain⟨a,b,ha,hb,hc,hne⟩:=jr8 hE hk hk0 (lev:=d.lev.toNat) oM hno;rw[Int.toNat_of_nonneg oM] at hc;rw[Int.toNat_of_nonneg p3] at hne;refine⟨a,b,ha,hb,hc,?_⟩;unfold jJ;rw[show (q.dims.any fun d=>(d.col==(k:Int))&&(qk s k d.lev a != qk s k d.lev b))=true from DJ.2 ⟨d,hd,by rw[Bq,AY,Bj];exact⟨e1,hne⟩⟩];simp
  ·obtain⟨k',h1,h2,rfl⟩:=zp1.1 hp;dsimp only at e1 h ⊢
   obtain rfl:k'=k:=by omega
   have hf:=JQ hE (k:=k') hk0 hk;obtain⟨l1,l2,l3,l4⟩:=WF (s:=s) (c:=k') hf (Int.le_refl _);have hno:=l4 (zR s k' (finI s k')-1).toNat oM;rw[Ax] at hno;obtain⟨a,b,ha,hb,hc,hne⟩:=jr8 hE hk hk0 (lev:=(finI s k').toNat) oM hno;rw[Int.toNat_of_nonneg oM] at hc;rw[Int.toNat_of_nonneg hf,zU4 hE hk hk0 ha,zU4 hE hk hk0 hb] at hne;refine⟨a,b,ha,hb,hc,?_⟩;unfold jJ;rw[h2,Bj.2 hne]
   rfl
 ·obtain⟨c,hc,hp⟩:=Ew.1 hp;have hck:=qU6 hq c hc;obtain⟨h3,h4⟩:=WB hck;rw[h3,wM] at hp;obtain⟨k',k1,k2,rfl⟩:=hp;dsimp only at e1 h ⊢
  obtain rfl:k'=k:=by omega
  obtain⟨x',hx',e3,e4⟩:=qf5 k2;obtain⟨x,hx,rfl⟩:=Cj.1 hx';dsimp only at e3 e4;rw[← e4] at h ⊢
  obtain⟨_,_,_,k4⟩:=JI hck;obtain⟨hnd,hia⟩:=qk3 c k4 x hx;obtain⟨n1,n2,n3⟩:=Wx hE hnd hia;obtain⟨a,b,ha,hb,hco,hne⟩:=jQ3 hE hnd hia (lev:=decN s x-1) oM (n3 _ oM);rw[e3,Ax] at ha hb;rw[e3,show ((decN s x-1:Nat):Int)=(decN s x:Int)-1 by omega] at hco;refine⟨a,b,ha,hb,hco,?_⟩;unfold jJ;rw[show ((cnsL q).any fun c=>(atsC c).any fun x=>(x.col==(k':Int))&&(zg s x a != zg s x b))=true from DJ.2 ⟨c,hc,DJ.2 ⟨x,hx,by rw[Bq,AY,Bj];exact⟨e3,hne⟩⟩⟩];simp
theorem qf6 (x y:Qst):Sp 123 [qstT x,.ip (qstT y).cells] [] (vB (eqB x.name y.name)) []:=by
 refine sIr YX fun e _ hst=>?_;unfold kB;refine sW ?_;rw[show (x.name.toList==y.name.toList)=eqB x.name y.name from rfl];exact .oA [] []
theorem JT (p:Qst→Bool) (f:FuncId) (caps:List T) (hcap:imL caps=true) (l:List Qst) (hf:∀ y∈l,Sp f (qstT y::caps) [] (vB (p y)) []) (hl:l.length<4611686018427387904) :
 Sp 187 [.sl 17 (l.map qstT),.clo f caps] [] (vI (idxI p l)) []:=by
 refine sIr ZL fun e _ hst=>?_;unfold jf;refine sW ?_;refine qt mixm (α:=Nat) [8] (fun i=>i≤l.length∧((l.take i).any p=false)) (fun i=>[(8,vI i)]) (fun i=>[]) (fun i=>l.length-i) 0 ⟨oM,?_⟩ ?_ fun i hi=>?_
 ·simp
 ·exact .oA [] []
 simp only[tZ,↓uU,simprocAttr,AZ,Ay];refine⟨fun h=>?_,fun h=>?_⟩
 ·have hi2:i<l.length:=by omega
  have hwi:=qh (i:=i) oM;simp only[tZ,↓uU,simprocAttr,Ax,qd hi2,hwi,qc0];refine⟨oM,?_⟩;refine C1.im (hf l[i] (AX hi2)) (Jb rfl hcap) rfl ?_;refine sW ?_;refine⟨fun h3=>?_,fun h3=>⟨i+1,⟨oM,zS hi2 hi.2 h3⟩,oM,?_⟩⟩
  ·rw[idxI,Aj (YG hi2 h3),yg hi2 hi.2 h3];exact .imR rfl rfl
  ·exact .oA [] []
 ·have h2:i=l.length:=by omega
  have h3:=hi.2;rw[h2,Bw] at h3;rw[idxI,Aq (by rw[h3];simp)];exact .imR rfl rfl
theorem QV (p:Qst→Bool) (f:FuncId) (caps:List T) (hcap:imL caps=true) (l:List Qst) (hf:∀ y∈l,Sp f (qstT y::caps) [] (vB (p y)) []) (hl:l.length<4611686018427387904) :
 Sp 122 [.sl 17 (l.map qstT),.clo f caps] [] (vB (l.any p)) []:=by
 refine sIr Qt fun e _ hst=>?_;unfold zO;refine sW ?_;refine C1.im (JT p f caps hcap l hf hl) (qq8 rfl hcap) rfl ?_;refine sW ?_;rw[show decide (idxI p l≥0)=l.any p from ql4 p l];exact .imR rfl rfl
theorem JU (s:Sch) (hs:ki s) (d:Dcl):Sp 59 [schT s,dclT d] [] (vI (dclE s d)) []:=by
 refine sIr qh8 fun e _ hst=>?_;unfold wx;refine sW ?_;refine C1.im (kr s hs.2.1 hs.1) rF rF ?_;simp only[tZ,↓uU,simprocAttr,Bj,Aw];refine⟨fun h=>?_,fun h=>?_⟩
 ·rw[dclE,Aj h];exact .oA [] []
 rw[dclE,Aq (by rw[h];simp)];refine C1.im (yj d.proj) rF rF ?_;refine sW ?_;refine C2.im (fun _=>yj d.src) (fun _=>rfl) rF ?_;simp only[tZ,↓uU,simprocAttr,tD,Bx,Bz];refine⟨fun h2=>?_,fun h2=>?_⟩
 ·rw[Aj h2];exact .oA [] []
 rw[Aq (by rw[h2.1,h2.2];simp)];refine C1.im (wm s hs d.coh) rF rF ?_;simp only[tZ,↓uU,simprocAttr,Bj,Aw];refine⟨fun h3=>?_,fun h3=>?_⟩
 ·rw[Aj h3];exact .oA [] []
 rw[Aq (by rw[h3];simp)];simp only[tZ,↓uU,simprocAttr,tD,gt_iff_lt,AY,Ak];refine⟨fun h4=>?_,fun h4=>?_⟩
 ·have:smpE d.smp≠0:=by rw[smpE,Aj oM];simp
  rw[Aj this];exact .oA [] []
 have h5:smpE d.smp=0:=by rw[smpE,Aq oM]
 rw[Aq (by rw[h5];simp)];refine⟨fun h6=>?_,fun h6=>?_⟩
 ·rw[Aj oM];exact .oA [] []
 rw[Aq oM];generalize hE:zW (qsE s d.qs) d.qs.length=E;refine qt mixm (α:=Nat) [80] (fun i=>i≤d.qs.length∧(zW (qsE s d.qs) i=0)) (fun i=>[(80,vI i)]) (fun i=>[aR 4096 2 [schT s],aR 4100 12 [dclT d]]) (fun i=>d.qs.length-i) 0 ⟨oM,?_⟩ ?_ fun i hi=>?_
 ·rfl
 ·exact .oA (U2 4096 4100) []
 simp only[tZ,↓uU,simprocAttr,AZ,Ay];refine⟨fun h=>?_,fun h=>?_⟩
 ·have hi2:i<d.qs.length:=by omega
  have hpi:qAt d.qs i=d.qs[i]:=by rw[qAt,qj hi2]
  have hstep:=wj hi.2 hi2;have hnext:=jp hi.2;have hA:qsE s d.qs i=if qstE s d.qs[i]≠0 then qstE s d.qs[i] else if ((d.qs.take i).any fun x=>eqB x.name d.qs[i].name)=true then 10 else 0:=by rw[qsE,hpi]
  rw[hE] at hstep;have hQ:=Qj s hs d.qs[i];have hCF:=QV (fun x=>eqB x.name d.qs[i].name) 123 [.ip (qstT d.qs[i]).cells] rfl (d.qs.take i) (fun x _=>qf6 x d.qs[i]) (by rw[Cz];omega);have hi2:i<d.qs.length:=by omega
  have hwi:=qh (i:=i) oM;simp only[tZ,↓uU,simprocAttr,Ax,qd hi2,hwi];refine⟨oM,?_⟩;refine C1.im hQ rF rF ?_;simp only[tZ,↓uU,simprocAttr,Bj,Aw];refine⟨fun h7=>?_,fun h7=>?_⟩
  ·rw[Aj h7] at hA;rw[hstep (by rw[hA];exact h7),hA];exact .oA [] []
  rw[Aq (by rw[h7];simp)] at hA;refine⟨oM,?_⟩;rw[qc1,qO6];refine C1.lend [69644] hCF ?_ rF rF ?_
  ·all_goals (try simp only[tL,simprocAttr,By,List.map_cons,List.map_nil,BW,Cy])
   all_goals (try (repeat' (first | exact zk | (apply zH;intro _;exact⟨rfl,rfl⟩) | (apply qw;intro _;exact⟨rfl,rfl⟩) | with_reducible apply ze | with_reducible refine qQ ⟨rfl,rfl⟩ ?_ | exact qR | with_reducible apply qZ | with_reducible refine zd ⟨rfl,rfl,?_⟩ ?_ | with_reducible apply Az | exact qY rfl | exact qY (by assumption) | (refine⟨⟨?_,rfl,?_,rfl,?_⟩,trivial⟩ <;> first | (simp;done) | (apply qw;intro _;exact⟨rfl,rfl⟩)) | trivial | rfl | (rw[qh oM]) | omega)))
   simp only[ltP];exact⟨rfl,by decide,rfl,qQ ⟨rfl,rfl⟩ qR⟩
  simp only[tZ,↓uU,simprocAttr,hwi];refine⟨fun h8=>?_,fun h8=>?_⟩
  ·rw[Aj h8] at hA;rw[hstep (by rw[hA];simp),hA];exact .oA [] []
  ·rw[Aq (by rw[h8];simp)] at hA;refine⟨i+1,⟨oM,by rw[hnext,hA]⟩,oM,?_⟩;exact .oA (U2 4096 4100) []
 ·have hi2:i=d.qs.length:=by omega
  subst hi2;rw[← hE,hi.2];exact .oA [] []
def zI9 (s:Sch) (qs:List Qst):List Pk:=qs.flatMap (jU s)
theorem qx5 {s:Sch} (q:Qst):∀ p∈jU s q,1≤p.col∧p.col<s.cols.length:=fun p hp=>by
 by_cases h:qstE s q=0
 ·have hq:=wE h;rw[WD h] at hp;obtain⟨k,k1,k2,rfl⟩:=wM.1 hp;refine⟨?_,by dsimp only;omega⟩;dsimp only;rcases DQ k with e | e
  ·subst e;rw[Yz fun q' hq'=>by have:=zp2 hq q' hq';omega] at k2;omega
  ·omega
 ·rw[jU,Aj h] at hp;simp at hp
theorem wq {s:Sch} {d:Dcl} (h:dclE s d=0):zU s d=canF (fun k=>mxl (zI9 s d.qs) k) s.cols.length:=by
 rw[zU,Aq (by rw[h];simp)];have key:∀ qs:List Qst,∀ l,qs.foldl (fun l q=>yp l (jU s q)) l=yp l (zI9 s qs):=by
  intro qs
  induction qs with
  | nil=>intro l;rfl
  | cons q r ih=>
    intro l;rw[Dw,ih,← qx0];rfl
 rw[key];refine zC1 fun p hp=>?_;obtain⟨q,hq,hp⟩:=Ew.1 hp;have:=qx5 q p hp;omega
theorem qf7 (s:Sch) (hs:ki s) (d:Dcl) (h:dclE s d=0):Sp 60 [schT s,dclT d] [] (vPs (zU s d)) []:=by
 obtain⟨hE,_,_,_,_,hq1,hq2,_⟩:=JG h;have hnc:=(qV hE).nc;rw[wq h,zI9,List.flatMap_def];have hbl:∀ l∈d.qs.map (jU s),l.length≤1000:=fun l hl=>by
  obtain⟨q,_,rfl⟩:=Cj.1 hl;have:=qe9 s q;omega
 have hbb:∀ l∈d.qs.map (jU s),∀ p∈l,0≤p.col∧p.col<s.cols.length:=fun l hl p hp=>by
  obtain⟨q,_,rfl⟩:=Cj.1 hl;have:=qx5 q p hp;omega
 have hM:=WC (d.qs.map (jU s)) s.cols.length oM oM (by rw[BY];omega) hbl hbb;refine sIr qG4 fun e _ hst=>?_;unfold Zd;refine sW ?_;refine qt mixm (α:=Nat) [5,11] (fun i=>i≤d.qs.length) (fun i=>[(5,.asl 1 i),(11,vI i)]) (fun i=>[aR 4096 2 [schT s],aR 1 1 ((d.qs.take i).map fun q=>vPs (jU s q))]) (fun i=>d.qs.length-i) 0 oM ?_ fun i hi=>?_
 ·exact .oA [uI 4096,(1,none)] []
 have htl:(d.qs.take i).length=i:=by rw[Cz];omega
 refine sD ?_;refine⟨fun h3=>?_,fun h3=>?_⟩
 ·have hi2:i<d.qs.length:=by omega
  have hwi:=qh (i:=i) oM;have hN:=WE s hs d.qs[i];simp only[tZ,↓uU,simprocAttr,Ax,qd hi2];refine⟨oM,?_⟩;refine C1.im hN rF rF ?_;simp only[tZ,↓uU,simprocAttr,hwi];refine⟨oM,i+1,oM,oM,?_⟩;rw[qS hi2,By];exact .oA (U2 4096 1) []
 ·have hil:i=d.qs.length:=by omega
  subst hil;rw[Bw];rw[Gx] at hM;refine C1.shut [1] hM ?_ rF rfl ?_
  ·all_goals (try exact clA)
  refine sW ?_;exact .oA [] []
theorem JV (s:Sch) (hs:ki s) (d:Dcl):Sp 14 [schT s,dclT d] [] (.tup [vPs (zU s d),vI (dclE s d)]) []:=by
 refine sIr qG0 fun e _ hst=>?_;unfold Zb;refine sW ?_;refine C1.im (JU s hs d) rF rF ?_;simp only[tZ,↓uU,simprocAttr,Bj,Aw];refine⟨fun h=>?_,fun h=>?_⟩
 ·rw[zU,Aj h];exact .oA [] []
 refine C1.im (qf7 s hs d h) rF rF ?_;rw[h];refine sW ?_;exact .oA [] []
theorem QJ (a b:List Pk) (ha:a.length<4611686018427387904) (hb:b.length<4611686018427387904):Sp 19 [vPs a,vPs b] [] (vB (covB a b)) []:=by
 refine sIr qr3 fun e _ hst=>?_;unfold yB;refine sW ?_;refine C1.im (qw8 b a hb ha) rF rF ?_;refine sW ?_;exact .oA [] []
theorem zc3 (a b:List Pk) (ha:a.length<4611686018427387904) (hb:b.length<4611686018427387904):Sp 20 [vPs a,vPs b] [] (vB (covB a b)) []:=by
 refine sIr qP0 fun e _ hst=>?_;unfold Jd;refine sW ?_;refine C1.im (qk4 a b ha hb) rF rF ?_;refine sW ?_;exact .oA [] []
theorem zp5 {a b:List Pk}:covB a b=true↔∀ x∈a,∃ y∈b,y.col=x.col∧x.lev≤y.lev:=by
 unfold covB;simp only[Bk,DJ,Bq,AY,AZ]
theorem jr9 {s:Sch} {d:Dcl} (h:dclE s d=0) (l:List Pk) (hl:l.Pairwise fun a b=>a.col<b.col):covB (zU s d) l=d.qs.all fun q=>covB (jU s q) l:=by
 rw[Bool.eq_iff_iff,zp5,Bk,wq h];constructor
 ·intro H q hq;rw[zp5];intro x hx;have hb:=qx5 q x hx;have hm:x∈zI9 s d.qs:=Ew.2 ⟨q,hq,hx⟩;have hge:=qk7 hm;obtain⟨k,hk⟩:=AJ (show 0≤x.col by omega);rw[hk] at hge;have hx0:0<x.lev:=by
   by_cases hq0:qstE s q=0
   ·rw[WD hq0] at hx;obtain⟨_,_,k2,rfl⟩:=wM.1 hx;exact k2
   ·rw[jU,Aj hq0] at hx;simp at hx
  obtain⟨y,hy,e1,e2⟩:=H ⟨k,mxl (zI9 s d.qs) k⟩ (wM.2 ⟨k,oM,oM,rfl⟩);exact⟨y,hy,by rw[e1,hk],by dsimp only at e2;omega⟩
 ·intro H x hx;obtain⟨k,k1,k2,rfl⟩:=wM.1 hx;obtain⟨p,hp,e1,e2⟩:=qf5 k2;obtain⟨q,hq,hp2⟩:=Ew.1 hp;obtain⟨y,hy,e3,e4⟩:=zp5.1 (H q hq) p hp2;exact⟨y,hy,by rw[e3,e1],by dsimp only;omega⟩
theorem jC0 {s:Sch} {d:Dcl} (h:dclE s d=0) {l:List Pk} (hl:yW s l=0):qT0 s d l=if covB (zU s d) l=true then 0 else 23:=by
 obtain⟨_,_,hasc⟩:=zA8 hl;obtain⟨_,_,_,_,_,_,_,hqs⟩:=JG h;rw[qT0,Aq (by rw[h];simp),Aq (by rw[hl];simp),jr9 h l hasc];have hs:∀ i,i<d.qs.length→sufB s (qAt d.qs i) l=covB (jU s (qAt d.qs i)) l:=fun i hi=>by
  rw[sufB,hqs i hi,hl];simp
 by_cases hall:(d.qs.all fun q=>covB (jU s q) l)=true
 ·rw[Aj hall];refine Wv fun i hi=>?_;have:=Bk.1 hall (qAt d.qs i) (by rw[qAt,qj hi];exact AX _);rw[hs i hi,this];rfl
 ·rw[Aq hall];refine AQ fun hne=>hall ?_;rw[Bk];intro q hq;obtain⟨i,hi,rfl⟩:=CX hq;have key:∀ n,n≤d.qs.length→(zW (fun i=>if sufB s (qAt d.qs i) l=true then 0 else 23) n=0∨zW (fun i=>if sufB s (qAt d.qs i) l=true then 0 else 23) n=23):=by
   intro n
   induction n with
   | zero=>intro _;exact .inl rfl
   | succ n ih=>
     intro hn;rw[zW];rcases ih oM with e | e
     ·rw[Aq (by rw[e];simp)];split <;> simp
     ·rw[Aj (by rw[e];simp)];exact .inr e
  have h0:=(key _ (BZ _)).resolve_right hne;have:=Wu h0 i hi;rw[hs i hi,qAt,qj hi] at this;by_cases e:covB (jU s d.qs[i]) l=true
  ·exact e
  ·rw[Aq e] at this;cases this
theorem YL (s:Sch) (hs:ki s) (d:Dcl) (l:List Pk) (hl:l.length<4611686018427387904):Sp 17 [schT s,dclT d,vPs l] [] (vI (qT0 s d l)) []:=by
 have hpl:=qv6 s d;refine sIr qz4 fun e _ hst=>?_;unfold Qp;refine sW ?_;refine C1.im (JU s hs d) rF rF ?_;simp only[tZ,↓uU,simprocAttr,Bj,Aw];refine⟨fun h=>?_,fun h=>?_⟩
 ·rw[qT0,Aj h];exact .oA [] []
 refine C1.im (zc2 s hs l hl) rF rF ?_;simp only[tZ,↓uU,simprocAttr,Bj,Aw];refine⟨fun h2=>?_,fun h2=>?_⟩
 ·rw[qT0,Aq (by rw[h];simp),Aj h2];exact .oA [] []
 rw[jC0 h h2];refine C1.im (qf7 s hs d h) rF rF ?_;refine sW ?_;refine C1.im (QJ (zU s d) l oM hl) rF rF ?_;simp only[tZ,↓uU,simprocAttr,Bx,Bz];refine⟨fun h3=>?_,fun h3=>?_⟩
 ·rw[Aq (by rw[h3];simp)];exact .oA [] []
 ·rw[Aj h3];exact .oA [] []
theorem qh4 {p:Nat→Prop}:∀ n,p n→∃ m,p m∧m≤n∧∀ k,k<m→¬ p k:=by
 intro n
 induction n using Nat.strongRecOn with
 | _ n ih=>
   intro h;by_cases e:∃ k,k<n∧p k
   ·obtain⟨k,k1,k2⟩:=e;obtain⟨m,m1,m2,m3⟩:=ih k k1 k2;exact⟨m,m1,oM,m3⟩
   ·exact⟨n,h,BZ _,fun k hk hp=>e ⟨k,hk,hp⟩⟩
theorem zJ0 {α:Type} [DecidableEq α] (f:Int→α):∀ (n:Nat) (a:Int),f a≠f (a+n)→∃ x,a<x∧x≤a+n∧f (x-1)≠f x
 | 0,a,h=>absurd sMp h
 | n+1,a,h=>by
   by_cases e:f a=f (a+n)
   ·refine⟨a+(n+1:Nat),oM,oM,?_⟩;rw[show a+((n+1:Nat):Int)-1=a+n by omega,← e];exact h
   ·obtain⟨x,x1,x2,x3⟩:=zJ0 f n a e;exact⟨x,x1,oM,x3⟩
theorem qU9 {s:Sch} {q:Qst} {k a b:Int} (hab:a<b) (h:jJ s q k a b=true):∃ x,a<x∧x≤b∧jJ s q k (x-1) x=true:=by
 have hb:a+((b-a).toNat:Int)=b:=by omega
 unfold jJ at h;rw[DZ,DZ] at h;rcases h with (h | h) | h
 ·rw[Bq] at h;refine⟨b,hab,Int.le_refl _,?_⟩;unfold jJ;rw[h.1,Bj.2 (show b-1≠b by omega)]
  rfl
 ·obtain⟨d,hd,h2⟩:=DJ.1 h;rw[Bq,Bj] at h2;obtain⟨x,x1,x2,x3⟩:=zJ0 (fun v=>qk s k d.lev v) (b-a).toNat a (by rw[hb];exact h2.2);refine⟨x,x1,oM,?_⟩;unfold jJ;rw[show (q.dims.any fun d=>(d.col==k)&&(qk s k d.lev (x-1) != qk s k d.lev x))=true from DJ.2 ⟨d,hd,by rw[Bq,Bj];exact⟨h2.1,x3⟩⟩];simp
 ·obtain⟨c,hc,h2⟩:=DJ.1 h;obtain⟨y,hy,h3⟩:=DJ.1 h2;rw[Bq,Bj] at h3;obtain⟨x,x1,x2,x3⟩:=zJ0 (fun v=>zg s y v) (b-a).toNat a (by rw[hb];exact h3.2);refine⟨x,x1,oM,?_⟩;unfold jJ;rw[show ((cnsL q).any fun c=>(atsC c).any fun y=>(y.col==k)&&(zg s y (x-1) != zg s y x))=true from DJ.2 ⟨c,hc,DJ.2 ⟨y,hy,by rw[Bq,Bj];exact⟨h3.1,x3⟩⟩⟩];simp
theorem js0 {s:Sch} {q:Qst} {k a b:Int}:jJ s q k a b=jJ s q k b a:=by
 have hb:∀ x y:Int,(x != y)=(y != x):=fun x y=>by rw[Bool.eq_iff_iff,Bj,Bj];exact⟨fun h e=>h e.symm,fun h e=>h e.symm⟩
 unfold jJ;simp only[hb a b,hb (qk s k _ a) (qk s k _ b),hb (zg s _ a) (zg s _ b)]
theorem zC6 {s:Sch} {q:Qst} {k a:Int}:jJ s q k a a=false:=by
 unfold jJ;simp
def Qb (s:Sch) (q:Qst) (k:Nat) (lev:Int) (x y:Int):Prop:=qk s k lev x=qk s k lev y∧jJ s q k x y=true
structure FirstV (s:Sch) (q:Qst) (k:Nat) (lev:Int) (x y:Int):Prop where
 hx:qT s k x=true
 hy:qT s k y=true
 lt:x<y
 qb:Qb s q k lev x y
 least:∀ x' y',qT s k x'=true→qT s k y'=true→x'<y'→Qb s q k lev x' y'→x<x'∨(x=x'∧y≤y')
structure LeastX (s:Sch) (q:Qst) (k:Nat) (lev:Int) (x:Int):Prop where
 lo:(qg s k).low<x
 hi:x≤(qg s k).high
 qb:Qb s q k lev (x-1) x
 least:∀ y,(qg s k).low<y→y<x→¬ Qb s q k lev (y-1) y
def qD1 (s:Sch) (q:Qst) (k:Nat) (lev a b:Int):Prop:=
 if (qg s k).kind=2 then FirstV s q k lev a b
 else if lev=0∧(qg s k).opt=true then a=zn∧b=(qg s k).low
 else LeastX s q k lev b∧a=(if lev=0 then (qg s k).low else max (qg s k).low (qk s k lev b))
theorem qD2 {s:Sch} (hE:schE s=0) {k:Nat} (hk:k<s.cols.length) (h0:0<k) (h2:(qg s k).kind≠2) {lev:Nat} (hl:(lev:Int)≤finI s k) {a b x:Int} (ha:(qg s k).low≤a) (hb:b≤(qg s k).high) (hax:a≤x) (hxb:x≤b) (h:qk s k lev a=qk s k lev b):qk s k lev x=qk s k lev a:=by
 have hm:=zK hE hk h0 h2;have hlh:=hm.lh;have hH:∀ v,(qg s k).low≤v→v≤(qg s k).high→qT s k v=true:=fun v h1 h2=>(zx hm.kind).2 (.inr ⟨h1,h2⟩);have hnm:∀ v,(qg s k).low≤v→v≠zn:=fun v h e=>by unfold zn at e;omega
 rw[JR hm hl (hH a ha oM),JR hm hl (hH b oM hb)] at h;rw[JR hm hl (hH a ha oM),JR hm hl (hH x oM oM)];by_cases e0:lev=0
 ·rw[Aj e0,Aj e0]
 ·rw[Aq e0,Aq e0,Aq (hnm a ha),Aq (hnm b oM)] at h;rw[Aq e0,Aq e0,Aq (hnm a ha),Aq (hnm x oM)];have hf:=hm.fin;have hw:=hm.wid lev oM oM;have h1:=Int.eq_of_mul_eq_mul_right (show qK (qg s k) lev≠0 by omega) h;rw[qx4 oM,qx4 oM] at h1 ⊢
  have a1:a / qK (qg s k) lev≤x / qK (qg s k) lev:=Int.ediv_le_ediv oM hax;have a2:x / qK (qg s k) lev≤b / qK (qg s k) lev:=Int.ediv_le_ediv oM hxb;have:x / qK (qg s k) lev=a / qK (qg s k) lev:=by omega
  rw[this]
theorem jQ4 {s:Sch} {q:Qst} (hq:QstOk s q) {k:Nat} (hk0:0<k) (hk:k<s.cols.length) (h:0<mxl (wI s q) k):∃ a b,qD1 s q k (mxl (wI s q) k-1) a b:=by
 have hE:=hq.sch;have hok:=qV hE;obtain⟨a,b,ha,hb,hc,ht⟩:=zU6 hq hk0 hk h;have hle:mxl (wI s q) k≤finI s k:=qU7 (JQ hE hk0 hk) fun p hp e=>by rw[← e];exact qx3 hq p hp
 obtain⟨L,hL⟩:=AJ (show 0≤mxl (wI s q) k-1 by omega);rw[hL] at hc ⊢
 have hLf:(L:Int)≤finI s k:=by omega
 obtain⟨a,b,ha,hb,hab,hc,ht⟩:∃ a b,qT s k a=true∧qT s k b=true∧a<b∧qk s k L a=qk s k L b∧jJ s q k a b=true:=by
  rcases Int.lt_trichotomy a b with h1 | h1 | h1
  ·exact⟨a,b,ha,hb,h1,hc,ht⟩
  ·rw[h1,zC6] at ht;cases ht
  ·exact⟨b,a,hb,ha,h1,hc.symm,by rw[js0];exact ht⟩
 unfold qD1;by_cases h2:(qg s k).kind=2
 ·simp only[Aj h2];have hn:∀ v,qT s k v=true→0≤v:=fun v hv=>by
   obtain⟨c,rfl,_⟩:=(yk hok hk h2).1 ((jq hok hk h2).1 hv);omega
  obtain⟨x,⟨hx1,y0,hy1,hy2,hy3⟩,_,hx3⟩:=qh4 (p:=fun n=>qT s k n=true∧∃ y,qT s k y=true∧(n:Int)<y∧Qb s q k L n y) a.toNat (by
   have:=hn a ha;rw[Int.toNat_of_nonneg this];exact⟨ha,b,hb,hab,hc,ht⟩)
  obtain⟨y,⟨hz1,hz2,hz3⟩,_,hz5⟩:=qh4 (p:=fun n=>qT s k n=true∧(x:Int)<n∧Qb s q k L x n) y0.toNat (by
   rw[Int.toNat_of_nonneg (hn y0 hy1)];exact⟨hy1,hy2,hy3⟩)
  refine⟨x,y,hx1,hz1,hz2,hz3,fun x' y' k1 k2 k3 k4=>?_⟩;have p1:=hn x' k1;have p2:=hn y' k2;obtain⟨X,rfl⟩:=AJ p1;obtain⟨Y,rfl⟩:=AJ p2;rcases Nat.lt_trichotomy x X with g | g | g
  ·left;omega
  ·subst g;right
   refine⟨rfl,?_⟩;refine AQ fun hlt=>hz5 Y oM ⟨k2,k3,k4⟩
  ·exact absurd ⟨k1,Y,k2,k3,k4⟩ (hx3 X g)
 ·simp only[Aq h2];by_cases hz:(L:Int)=0∧(qg s k).opt=true
  ·simp only[Aj hz];exact⟨zn,(qg s k).low,rfl,rfl⟩
  ·simp only[Aq hz];have hm:=zK hE hk hk0 h2;have hlh:=hm.lh;have hnn:(qg s k).low≤a∧b≤(qg s k).high:=by
    have va:=(zx hm.kind).1 ha;have vb:=(zx hm.kind).1 hb;by_cases e0:L=0
    ·have ho:(qg s k).opt=false:=by
      cases e:(qg s k).opt with
      | false=>rfl
      | true=>exact absurd ⟨oM,e⟩ hz
     rw[ho] at va vb;exact⟨(va.resolve_left fun k=>by cases k.1).1,(vb.resolve_left fun k=>by cases k.1).2⟩
    ·rcases (JS hE hk hk0 h2 oM hLf ha hb).1 hc with g | g
     ·rw[g.1,g.2] at hab;omega
     ·exact⟨(va.resolve_left fun k=>g.1 k.2).1,(vb.resolve_left fun k=>g.2.1 k.2).2⟩
   obtain⟨x,x1,x2,x3⟩:=qU9 hab ht;have hcx:qk s k L (x-1)=qk s k L x:=by
    rw[qD2 hE hk hk0 h2 hLf hnn.1 hnn.2 (show a≤x-1 by omega) oM hc,qD2 hE hk hk0 h2 hLf hnn.1 hnn.2 (show a≤x by omega) oM hc]
   obtain⟨m,⟨m1,m2⟩,m3,m4⟩:=qh4 (p:=fun n=>(qg s k).low+1+(n:Int)≤(qg s k).high∧Qb s q k L ((qg s k).low+1+n-1) ((qg s k).low+1+n)) (x-(qg s k).low-1).toNat (by
    rw[show (qg s k).low+1+((x-(qg s k).low-1).toNat:Int)=x by omega];exact⟨oM,hcx,x3⟩)
   refine⟨_,(qg s k).low+1+m,⟨oM,m1,m2,fun y y1 y2 hqy=>?_⟩,rfl⟩;refine m4 (y-(qg s k).low-1).toNat oM ?_;rw[show (qg s k).low+1+((y-(qg s k).low-1).toNat:Int)=y by omega];exact⟨oM,hqy⟩
def WitR (s:Sch) (d:Dcl) (col:Int) (w:Int×Int×Int×Bool):Prop:=
 (¬ (dclE s d=0∧0<mxl (zU s d) col)∧w=(0,0,0,false))∨
 (dclE s d=0∧∃ (k n:Nat) (a b:Int),col=k∧0<k∧k<s.cols.length∧0<mxl (zU s d) k∧n<d.qs.length∧mxl (jU s (qAt d.qs n)) k=mxl (zU s d) k∧(∀ m,m<n→mxl (jU s (qAt d.qs m)) k≠mxl (zU s d) k)∧qD1 s (qAt d.qs n) k (mxl (zU s d) k-1) a b∧w=(a,b,(n:Int),true))
theorem QW {s:Sch} {q:Qst} (h:qstE s q=0) {k:Nat} (hk:k<s.cols.length):mxl (jU s q) k=mxl (wI s q) k:=by
 rw[WD h,qL0 fun k=>JP _ _,Aj hk]
theorem qf8 {s:Sch} {d:Dcl} (h:dclE s d=0) {k:Nat} (hk:k<s.cols.length):mxl (zU s d) k=mxl (zI9 s d.qs) k:=by
 rw[wq h,qL0 fun k=>JP _ _,Aj hk]
theorem zU7 {l:List Pk} {k:Int} (h:0<mxl l k):∃ p∈l,p.col=k:=by
 obtain⟨p,hp,e,_⟩:=qf5 h;exact⟨p,hp,e⟩
theorem jC1 {s:Sch} {d:Dcl} (h:dclE s d=0) {col:Int} (hm:0<mxl (zU s d) col):1≤col∧col<s.cols.length:=by
 obtain⟨p,hp,e⟩:=zU7 hm;rw[wq h] at hp;obtain⟨k,k1,k2,rfl⟩:=wM.1 hp;obtain⟨x,hx,e2⟩:=zU7 k2;obtain⟨q,hq,hx2⟩:=Ew.1 hx;have:=qx5 q x hx2;dsimp only at e;omega
theorem js1 {s:Sch} {d:Dcl} (h:dclE s d=0) {k:Nat} (hk:k<s.cols.length) {i:Nat} (hi:i<d.qs.length):mxl (jU s d.qs[i]) k≤mxl (zU s d) k:=by
 rw[qf8 h hk];refine qU7 (JP _ _) fun p hp e=>?_;have:p∈zI9 s d.qs:=Ew.2 ⟨_,AX hi,hp⟩;have:=qk7 this;rw[e] at this;exact this
theorem jW0 (s:Sch) (d:Dcl) (col:Int):∃ w,WitR s d col w:=by
 by_cases h:dclE s d=0∧0<mxl (zU s d) col
 ·obtain⟨hd,hm⟩:=h;obtain⟨c1,c2⟩:=jC1 hd hm;obtain⟨k,rfl⟩:=AJ (show 0≤col by omega);have hk:k<s.cols.length:=by omega
  obtain⟨_,_,_,_,_,_,_,hqs⟩:=JG hd;have hex:∃ n,n<d.qs.length∧mxl (jU s (qAt d.qs n)) k=mxl (zU s d) k:=by
   have hm2:=hm;rw[qf8 hd hk] at hm2;obtain⟨p,hp,e1,e2⟩:=qf5 hm2;obtain⟨q,hq,hp2⟩:=Ew.1 hp;obtain⟨n,hn,rfl⟩:=CX hq;refine⟨n,hn,?_⟩;have h1:=js1 hd hk hn;have h2:=qk7 hp2;rw[e1] at h2;have h3:=qf8 hd hk;rw[qAt,qj hn];omega
  obtain⟨n0,hn0⟩:=hex;obtain⟨n,⟨n1,n2⟩,_,n4⟩:=qh4 (p:=fun n=>n<d.qs.length∧mxl (jU s (qAt d.qs n)) k=mxl (zU s d) k) n0 hn0;have hqe:=hqs n n1;have h3:=QW hqe hk;obtain⟨a,b,hab⟩:=jQ4 (wE hqe) oM hk oM;rw[← h3,n2] at hab;exact⟨(a,b,(n:Int),true),.inr ⟨hd,k,n,a,b,rfl,oM,hk,hm,n1,n2,fun m hm e=>n4 m hm ⟨oM,e⟩,hab,rfl⟩⟩
 ·exact⟨_,.inl ⟨h,rfl⟩⟩
def qk8 (L:List Int) (f g:Int→Int) (v:Int):Int×Bool:=match L.filter (fun x=>f x==v) with
 | []=>(0,false)
 | x::r=>if (r.all fun y=>g y==g x)=true then (g x,true) else (0,false)
theorem zJ1 {L:List Int} {f:Int→Int} {v:Int} {i:Nat} (h:i<L.length):(L.take (i+1)).filter (fun x=>f x==v)=(L.take i).filter (fun x=>f x==v)++if (f L[i]==v)=true then [L[i]] else []:=by
 rw[qS h,Gz]
 congr 1
 split
 ·rename_i h2;rw[List.filter_cons_of_pos (p:=fun x=>f x==v) h2];rfl
 ·rename_i h2;rw[List.filter_cons_of_neg (p:=fun x=>f x==v) h2];rfl
def TcI (g:Int→Int) (M:List Int) (o:Int) (b:Bool):Prop:=(M=[]∧o=0∧b=false)∨∃ x r,M=x::r∧(∀ y∈r,g y=g x)∧o=g x∧b=true
theorem TcI.fin {L:List Int} {f g:Int→Int} {v o:Int} {b:Bool} (h:TcI g (L.filter fun x=>f x==v) o b):qk8 L f g v=(o,b):=by
 unfold qk8;rcases h with⟨h1,h2,h3⟩ | ⟨x,r,h1,h2,h3,h4⟩
 ·rw[h1,h2,h3]
 ·rw[h1,h3,h4];dsimp only;rw[Aj (Bk.2 fun y hy=>AY.2 (h2 y hy))]
theorem zZ1 {L:List Int} {f g:Int→Int} {v:Int} {i:Nat} (h:i<L.length) {o:Int} (hI:TcI g ((L.take i).filter fun x=>f x==v) o true) (h1:(f L[i]==v)=true) (h2:g L[i]≠o):qk8 L f g v=(0,false):=by
 rcases hI with⟨_,_,h3⟩ | ⟨x,r,h3,h4,h5,_⟩
 ·cases h3
 ·have hL:L.filter (fun x=>f x==v)=x::(r++L[i]::(L.drop (i+1)).filter fun x=>f x==v):=by
   conv=>lhs;rw[← List.take_append_drop i L,Gz,h3,zn3 h,List.filter_cons_of_pos (p:=fun x=>f x==v) h1]
   simp
  unfold qk8;rw[hL];dsimp only;rw[Aq];intro k;have:=Bk.1 k L[i] sMp;rw[AY,← h5] at this;exact h2 this
theorem qD3 (l:CodL) (hl:lstE l=0) (a v b:Int):Sp 196 [cdlT l,vI a,vI v,vI b] [] (.tup [vI (qk8 (atL l (zy l-1)) (fun x=>upC l x a) (fun x=>upC l x b) v).1,vB (qk8 (atL l (zy l-1)) (fun x=>upC l x a) (fun x=>upC l x b) v).2]) []:=by
 have hlv:=qo3 (l:=l);have hw:IntKind.i64.wrap (zy l-1)=zy l-1:=AK _ oM;have hLl:(atL l (zy l-1)).length≤60:=by
  obtain⟨_,d5,d6⟩:=zm hl;unfold atL;rw[Aq (by rw[hl];simp),BY];refine FX (Fq _ _) ?_;rw[List.length_range];exact d6
 refine sIr qt6 fun e _ hst=>?_;unfold yN;refine sW ?_;refine C1.im (KZ l) rF rF ?_;simp only[tZ,↓uU,simprocAttr,hw];refine C1.im (qC6 l (zy l-1)) rF rF ?_;generalize atL l (zy l-1)=L at hLl ⊢
 refine sW ?_;refine⟨kR,?_⟩;refine qt mixm (α:=Nat×Int×Bool) [10,11,21] (fun y=>y.1≤L.length∧TcI (fun x=>upC l x b) ((L.take y.1).filter fun x=>upC l x a==v) y.2.1 y.2.2) (fun y=>[(10,vI y.2.1),(11,vB y.2.2),(21,vI y.1)]) (fun y=>[aR 4096 2 [cdlT l]]) (fun y=>L.length-y.1) (0,0,false) ⟨sMp,.inl ⟨rfl,rfl,rfl⟩⟩ ?_ fun y hy=>?_
 ·exact .oA (U1 4096) []
 obtain⟨i,o,t⟩:=y;obtain⟨y1,y2⟩:=hy;dsimp only at y1 y2;refine sD ?_;refine⟨fun h3=>?_,fun h3=>?_⟩
 ·have hi2:i<L.length:=by omega
  have hwi:=qh (i:=i) oM;have hsp:=zJ1 (f:=fun x=>upC l x a) (v:=v) hi2;have hbad:=fun e=>zZ1 (f:=fun x=>upC l x a) (g:=fun x=>upC l x b) (v:=v) (o:=o) hi2 e;have sU:=fun c=>qh3 l L[i] c;simp only[tZ,↓uU,simprocAttr,Ax,qd hi2];refine⟨oM,?_⟩;refine C1.im (sU a) rF rF ?_;simp only[tZ,↓uU,simprocAttr,Bj,Aw,hwi];generalize L[i]=x at hsp hbad sU ⊢
  refine⟨fun h4=>?_,fun h4=>?_⟩
  ·rw[Aq (by rw[AY];exact h4),CW] at hsp;refine⟨(i+1,o,t),⟨by dsimp only;omega,by dsimp only;rw[hsp];exact y2⟩,by dsimp only;omega,?_⟩;exact .oA (U1 4096) []
  ·rw[Aj (AY.2 h4)] at hsp;refine C1.im (sU b) rF rF ?_;simp only[tZ,↓uU,simprocAttr,tD,Bj,Aw,hwi];refine⟨fun h5=>?_,fun h5=>?_⟩
   ·rw[h5.1] at y2;rw[hbad y2 (AY.2 h4) h5.2];exact .oA [] []
   ·refine⟨(i+1,upC l x b,true),⟨by dsimp only;omega,?_⟩,by dsimp only;omega,?_⟩
    ·dsimp only;rw[hsp];rcases y2 with⟨k1,k2,k3⟩ | ⟨z,r,k1,k2,k3,k4⟩
     ·exact .inr ⟨x,[],by rw[k1];rfl,sMp,rfl,rfl⟩
     ·right
      have hx:upC l x b=o:=by
       rw[k4] at h5;simpa using h5
      refine⟨z,r++[x],by rw[k1];rfl,fun y hy=>?_,by rw[hx,k3],rfl⟩;rcases Dz.1 hy with hy | hy
      ·exact k2 y hy
      ·rw[EZ.1 hy];dsimp only;rw[hx,k3]
    ·exact .oA (U1 4096) []
 ·have hil:i=L.length:=by omega
  subst hil;rw[Bw] at y2;rw[TcI.fin y2];exact .oA [] []
theorem js2 {s:Sch} (hE:schE s=0) {k:Nat} (hk:k<s.cols.length) (h0:0<k) (h2:(qg s k).kind=2) (x:Int):(qk8 (qE s k) (fun y=>upC (qU s k) y (finI s k)) (fun y=>upC (qU s k) y (finI s k)) x).2=qT s k x:=by
 have hok:=qV hE;obtain⟨_,d2⟩:=hok.cdl hk h2;have hself:∀ y∈qE s k,upC (qU s k) y (finI s k)=y:=fun y hy=>by
  have h3:=Yt hE h0 hk h2 hy;have h4:=Wt h2 d2 hy;have hf:=JQ hE h0 hk;rw[qk,Aq (by rw[Ez,yi];omega),Ax,Aj h2,Aq (by rw[h4];simp)] at h3;exact h3
 have hl:=jq hok hk h2 (v:=x);unfold qk8;cases hf:(qE s k).filter fun y=>upC (qU s k) y (finI s k)==x with
 | nil=>
   dsimp only
   symm
   rw[Bool.eq_false_iff];intro hh;have hm:=hl.1 hh;have:=List.filter_eq_nil_iff.1 hf x hm;rw[hself x hm] at this;simp at this
 | cons y r=>
   dsimp only;have hy:y∈(qE s k).filter fun y=>upC (qU s k) y (finI s k)==x:=by rw[hf];exact List.mem_cons_self
   obtain⟨hy1,hy2⟩:=Fx.1 hy;rw[hself y hy1,AY] at hy2;subst hy2;rw[Aj,hl.2 hy1];rw[Bk];intro z hz;have hz2:z∈(qE s k).filter fun y'=>upC (qU s k) y' (finI s k)==y:=by rw[hf];exact CQ _ hz
   obtain⟨z1,z2⟩:=Fx.1 hz2;rw[hself z z1,AY] at z2;rw[z2];exact beq_self_eq_true _
theorem qJ8 (s:Sch) (hE:schE s=0) (k:Nat) (hk:k<s.cols.length) (h0:0<k) (h2:(qg s k).kind=2) (a v b:Int) (ha:0≤a∧a≤finI s k) (hb:0≤b∧b≤finI s k):Sp 140 [schT s,vI k,vI a,vI v,vI b] []
 (let r:=qk8 (qE s k) (fun x=>upC (qU s k) x a) (fun x=>upC (qU s k) x b) v;.tup [vI (if r.2=true then r.1 else 0),vB r.2]) []:=by
 have hok:=qV hE;have hat:qg s k=s.cols[k]:=by rw[qg,qj hk]
 obtain⟨d1,d2⟩:=hok.cdl hk h2;have hls:qE s k=atL (qU s k) (zy (qU s k)-1):=rfl;have hcd:qU s k=s.lists.getD (qg s k).list.toNat default:=rfl;have hkk:=(zj (hok.cs k hk)).2.2.2.1 h2;have sT:=JM s hE k;have e1:decide (a<0)=false:=Cq oM;have e2:decide (a>finI s k)=false:=Cq oM;have e3:decide (b<0)=false:=Cq oM;have e4:decide (b>finI s k)=false:=Cq oM;rw[hls];have sC:=qD3 (qU s k) d2 a v b;generalize qk8 (atL (qU s k) (zy (qU s k)-1)) (fun x=>upC (qU s k) x a) (fun x=>upC (qU s k) x b) v=r at sC ⊢
 rw[hat] at d1 h2 hcd hkk;rw[hcd,qj d1] at sC;dsimp only;refine sIr qH3 fun e _ hst=>?_;unfold Zi;refine sW ?_;refine C1.im sT rF rF ?_;simp only[tZ,↓uU,simprocAttr,e1,e2,e3,e4,Ax,qd hk,AY,Ak];generalize s.cols[k]=x at d1 h2 hkk sC ⊢
 refine⟨oM,fun _=>?_,fun h=>absurd h2 h⟩;simp only[tZ,↓uU,simprocAttr,qd d1];refine⟨oM,?_⟩;refine C1.im sC rF rF ?_;simp only[tZ,↓uU,simprocAttr,Bx,Bz];refine⟨fun h=>?_,fun h=>?_⟩
 ·rw[h,Aq sMp];exact .oA [] []
 ·rw[h,Aj rfl];exact .oA [] []
theorem WG (s:Sch) (hE:schE s=0) (k:Nat) (hk:k<s.cols.length) (h0:0<k) (h2:(qg s k).kind=2) (x:Int):Sp 139 [vI x,.ip (schT s).cells,.ip [vI k],.ip [vI (finI s k)]] [] (vB (qT s k x)) []:=by
 have hf:=JQ hE h0 hk;have sT:=qJ8 s hE k hk h0 h2 (finI s k) x (finI s k) oM oM;dsimp only at sT;rw[js2 hE hk h0 h2] at sT;refine sIr KC fun e _ hst=>?_;unfold jH;refine sW ?_;refine C1.im sT rF rF ?_;refine sW ?_;exact .oA [] []
theorem qa9 (s:Sch) (q:Qst) (hq:QstOk s q) (k:Nat) (hk:k<s.cols.length) (h0:0<k) (h2:(qg s k).kind=2) (lev a b:Int) (hF:FirstV s q k lev a b):Sp 74 [schT s,qstT q,vI k,vI lev] [] (.tup [vI a,vI b]) []:=by
 have hE:=hq.sch;have hok:=qV hE;have hs:=hok.sm;have hat:qg s k=s.cols[k]:=by rw[qg,qj hk]
 obtain⟨d1,d2⟩:=hok.cdl hk h2;obtain⟨_,d5,d6⟩:=zm d2;have hcd:qU s k=s.lists.getD (qg s k).list.toNat default:=rfl;have hkk:=(zj (hok.cs k hk)).2.2.2.1 h2;have sF:=Qa s hs k;have sL:=WG s hE k hk h0 h2;have sC:=fun v=>JN s hs k lev v;have sT:=fun x y=>YK s hok q hq.nd hq.nt (qU6 hq) k x y;have hcode:∀ v,qT s k v=true→∃ c:Nat,v=c∧c<(qU s k).codes.length:=fun v hv=>by
  obtain⟨c,e,c1,_⟩:=(yk hok hk h2).1 ((jq hok hk h2).1 hv);exact⟨c,e,c1⟩
 rw[hat] at d1 hcd hkk;rw[hcd,qj d1] at hcode d6;obtain⟨A,rfl,hA⟩:=hcode a hF.hx;obtain⟨B,rfl,hB⟩:=hcode b hF.hy;have hAB:=hF.lt;refine sIr WV fun e _ hst=>?_;unfold jX;simp only[tZ,↓uU,simprocAttr,Ax,qd hk];generalize s.cols[k]=x at d1 hkk hcode d6 hA hB ⊢
 simp only[tZ,↓uU,simprocAttr,qd d1];refine⟨oM,oM,kR,?_⟩;generalize s.lists[x.list.toNat]=l at hcode d6 hA hB ⊢
 refine C1.im sF rF rF ?_;refine sW ?_;refine qt mixm (α:=Nat) [32] (fun i=>i≤A) (fun i=>[(32,vI i)]) (fun i=>[aR 4096 2 [schT s],aR 4100 17 [qstT q],aR 4104 1 [vI k],aR 12300 1 [vI (finI s k)]]) (fun i=>A-i) 0 oM ?_ fun i hi=>?_
 ·exact .oA (U4 4096 4100 4104 12300) []
 have hwi:=qh (i:=i) oM;simp only[tZ,↓uU,simprocAttr,tD,hwi];refine⟨fun h3=>?_,fun h3=>by omega⟩;refine qt mixm (α:=Nat) [14] (fun j=>i+1≤j∧j≤l.codes.length∧(i=A→j≤B)) (fun j=>[(14,vI j)]) (fun j=>[aR 4096 2 [schT s],aR 4100 17 [qstT q],aR 4104 1 [vI k],aR 12300 1 [vI (finI s k)]]) (fun j=>l.codes.length-j) (i+1) ⟨oM,oM,oM⟩ ?_ fun j hj=>?_
 ·exact .oA (U4 4096 4100 4104 12300) []
 obtain⟨j1,j2,j3⟩:=hj;have hwj:=qh (i:=j) oM;refine sW ?_;refine C2.lend [4096,4104,12300] (fun _=>sL i) (fun _=>?_) rF rF ?_
 ·all_goals (try simp only[tL,simprocAttr,By,List.map_cons,List.map_nil,BW,Cy])
  all_goals (try (repeat' (first | exact zk | (apply zH;intro _;exact⟨rfl,rfl⟩) | (apply qw;intro _;exact⟨rfl,rfl⟩) | with_reducible apply ze | with_reducible refine qQ ⟨rfl,rfl⟩ ?_ | exact qR | with_reducible apply qZ | with_reducible refine zd ⟨rfl,rfl,?_⟩ ?_ | with_reducible apply Az | exact qY rfl | exact qY (by assumption) | (refine⟨⟨?_,rfl,?_,rfl,?_⟩,trivial⟩ <;> first | (simp;done) | (apply qw;intro _;exact⟨rfl,rfl⟩)) | trivial | rfl | (rw[qh oM]) | omega)))
  all_goals (simp only[ltP];exact⟨rfl,by decide,rfl,qQ ⟨rfl,rfl⟩ qR⟩)
 refine sD ?_;refine⟨fun h5=>?_,fun h5=>?_⟩
 ·refine C1.lend [4096,4104,12300] (sL j) ?_ rF rF ?_
  ·all_goals (try simp only[tL,simprocAttr,By,List.map_cons,List.map_nil,BW,Cy])
   all_goals (try (repeat' (first | exact zk | (apply zH;intro _;exact⟨rfl,rfl⟩) | (apply qw;intro _;exact⟨rfl,rfl⟩) | with_reducible apply ze | with_reducible refine qQ ⟨rfl,rfl⟩ ?_ | exact qR | with_reducible apply qZ | with_reducible refine zd ⟨rfl,rfl,?_⟩ ?_ | with_reducible apply Az | exact qY rfl | exact qY (by assumption) | (refine⟨⟨?_,rfl,?_,rfl,?_⟩,trivial⟩ <;> first | (simp;done) | (apply qw;intro _;exact⟨rfl,rfl⟩)) | trivial | rfl | (rw[qh oM]) | omega)))
   all_goals (simp only[ltP];exact⟨rfl,by decide,rfl,qQ ⟨rfl,rfl⟩ qR⟩)
  refine sW ?_;refine C2.im (fun _=>sC i) (fun _=>rfl) rF ?_;refine sW ?_;refine C2.im (fun _=>sC j) (fun _=>rfl) rF ?_;refine sW ?_;refine C2.im (fun _=>sT i j) (fun _=>rfl) rF ?_;simp only[tZ,↓uU,simprocAttr,hwj,tD,AY,Ak];have hq2:∀ h1:qT s k i=true,(qT s k j=true∧qk s k lev i=qk s k lev j)∧jJ s q k i j=true→A=i∧B=j:=fun h1 h2=>by
   have:=hF.least i j h1 h2.1.1 oM ⟨h2.1.2,h2.2⟩;have hiA:A=i:=by omega
   have:=j3 hiA.symm;omega
  refine⟨kR,fun h6=>?_,fun h6=>?_⟩
  ·obtain⟨e1,e2⟩:=hq2 h5.2 h6;rw[e1,e2];exact .oA [] []
  ·refine⟨j+1,⟨oM,oM,fun e=>?_⟩,oM,?_⟩
   ·have h7:=j3 e;refine AQ fun hn=>?_;have hjB:j=B:=by omega
    subst hjB;subst e;have:=hF.qb;have hy:=hF.hy;have h8:¬ ((qT s k j=true∧qk s k lev i=qk s k lev j)∧jJ s q k i j=true):=fun h=>by
     rcases h6 with h6 | h6
     ·rcases h6 with h6 | h6
      ·rw[h6] at hy;cases hy
      ·exact h6 h.1.2
     ·rw[h6] at h;cases h.2
    exact h8 ⟨⟨hy,this.1⟩,this.2⟩
   ·exact .oA (U4 4096 4100 4104 12300) []
 ·rw[hwi];have hlt:i+1≤A:=by
   refine AQ fun hn=>?_;have hiA:i=A:=by omega
   have h7:=j3 hiA;have hx:=hF.hx;rw[hiA] at h5;rcases h5 with h5 | h5
   ·omega
   ·rw[h5] at hx;cases hx
  refine⟨i+1,hlt,oM,?_⟩;exact .oA (U4 4096 4100 4104 12300) []
theorem qj4 (p:Pk) (k:Int):Sp 71 [pkT p,.ip [vI k]] [] (vB (p.col==k)) []:=by
 refine sIr qc9 fun e _ hst=>?_;unfold kQ;refine sW ?_;exact .oA [] []
theorem QX {f:Nat→Int} {n:Nat} {p:Pk} (h:p∈canF f n):0<p.lev∧p.lev=f p.col.toNat∧0≤p.col∧p.col<n:=by
 obtain⟨k,k1,k2,rfl⟩:=wM.1 h;exact⟨k2,rfl,by dsimp only;omega,by dsimp only;omega⟩
theorem js3 {s:Sch} {q:Qst} (h:qstE s q=0) {k:Nat} (hk:k<s.cols.length) {lev:Int} (hl:0<lev):(jU s q).any (fun p=>eqPk p ⟨k,lev⟩)=true↔mxl (jU s q) k=lev:=by
 rw[QW h hk,WD h,DJ];constructor
 ·rintro ⟨p,hp,e⟩;rw[qu9] at e;subst e;have:=(QX hp).2.1;rw[Ax] at this;exact this.symm
 ·intro e;exact⟨⟨k,lev⟩,wM.2 ⟨k,hk,oM,by rw[e]⟩,qu9.2 rfl⟩
end Go.Proofs
