/- A part of the proof: trees of Go values, short forms, contracts. -/
import Derived.Test.YthbdcffpkbmlaaaGreatDoorK21
namespace Go.Proofs
open Go Go.TL
set_option maxRecDepth 4000
set_option maxHeartbeats 8000000
theorem jB0 {l:CodL} (h:lstE l=0) {c:Nat} (hc:c<l.codes.length):upN l.codes 0 c=0:=by
 obtain⟨hp,h1,h2⟩:=ze h;obtain⟨u1,u2⟩:=jX0 hp (v:=0) c hc oM;refine AQ fun hne=>?_;have hlt:upN l.codes 0 c<l.codes.length:=by omega
 have hpar:0≤parC l.codes (upN l.codes 0 c):=(qf8 h).kid _ oM hlt;have:=YP hp hlt hpar;omega
theorem jP8 {s:Sch} (hE:schE s=0) {i:Nat} (hi:i<s.cols.length) (h0:0<i) {a:Int} (ha:zn s i a=true):qw s i 0 a=0:=by
 by_cases h2:(qj s i).kind=2
 ·have hok:=qU hE;obtain⟨_,d2⟩:=hok.cdl hi h2;have hf:=qD9 hE h0 hi;obtain⟨c,rfl,c1,c2,c3⟩:=ze1 hE hi h0 h2 (lev:=0) oM ha;show qw s i ((0:Nat):Int) c=0;rw[c3,jB0 d2 c1];rfl
 ·exact qE0 hE hi h0 h2 ha
theorem jY0 {s:Sch} (hE:schE s=0) {i:Nat} (hi:i<s.cols.length) (h0:0<i) {lev:Nat} (hl:(lev:Int)≤finI s i) {v:Int} (hv:zn s i v=true) :
 canR s i lev (qw s i lev v)=true∧zn s i (zt8 s i lev (qw s i lev v))=true∧qw s i lev (zt8 s i lev (qw s i lev v))=qw s i lev v:=by
 have hok:=qU hE;have hin:inB lev 0 (finI s i)=true:=zX.2 oM;by_cases h2:(qj s i).kind=2
 ·have hm:=(wS hok hi h2).1 hv;have hany:((qJ s i).any fun x=>qw s i lev x==qw s i lev v)=true:=DJ.2 ⟨v,hm,beq_self_eq_true _⟩;refine⟨by rw[canR,Aq (by rw[hin];simp),Ax,Aj h2];exact hany,?_⟩;rw[zt8,Aj h2];cases hf:(qJ s i).find? fun x=>qw s i lev x==qw s i lev v with
  | none=>
    rw[List.find?_eq_none] at hf;exact absurd (beq_self_eq_true _) (hf v hm)
  | some x=>
    have h3:=List.mem_of_find?_eq_some hf;have h4:=List.find?_some hf;rw[Option.getD_some];exact⟨(wS hok hi h2).2 h3,AY.1 h4⟩
 ·have hm:=QK hE hi h0 h2;have hlh:=hm.lh;have hf:=hm.fin;have hH:∀ v,(qj s i).low≤v→v≤(qj s i).high→zn s i v=true:=fun v h1 h2=>(wR hm.kind).2 (.inr ⟨h1,h2⟩);have hcan:canR s i lev (qw s i lev v)=if (lev:Int)>0∧qw s i lev v=zj then (qj s i).opt else (blkR (qj s i) lev (qw s i lev v)).2.2:=by
   rw[canR,Aq (by rw[hin];simp),Ax,Aq h2]
  have hsom:zt8 s i lev (qw s i lev v)=if (lev:Int)>0∧qw s i lev v=zj then qw s i lev v else (blkR (qj s i) lev (qw s i lev v)).1:=by
   rw[zt8,Aq h2]
  rw[hcan,hsom];by_cases e0:lev=0
  ·subst e0;have z:=qE0 hE hi h0 h2 hv;show (if (0:Int)>0∧qw s i 0 v=zj then _ else (blkR (qj s i) 0 (qw s i 0 v)).2.2)=true∧_;rw[Aq (show ¬ ((0:Int)>0∧qw s i 0 v=zj) by omega),Aq (show ¬ (((0:Nat):Int)>0∧qw s i ((0:Nat):Int) v=zj) by omega)];show (blkR (qj s i) 0 (qw s i 0 v)).2.2=true∧zn s i (blkR (qj s i) 0 (qw s i 0 v)).1=true∧qw s i 0 (blkR (qj s i) 0 (qw s i 0 v)).1=qw s i 0 v;have hl:=hH (qj s i).low oM oM;have zl:=qE0 hE hi h0 h2 hl;rw[z,blkR,Aj rfl];exact⟨rfl,hl,zl⟩
  ·have hw:=hm.wid lev oM oM;have hw2:=jp2 hE hi h0 h2 (l:=lev) oM oM;have hco:=ql2 hm hl hv;rw[Aq e0] at hco;rcases (wR hm.kind).1 hv with⟨k1,k2⟩ | ⟨k1,k2⟩
   ·rw[Aj k2,k2] at hco;rw[k2,hco,Aj ⟨oM,rfl⟩,Aj ⟨oM,rfl⟩];subst k2;exact⟨k1,hv,hco⟩
   ·have hne:v≠zj:=fun e=>by unfold zj at e;omega
    rw[Aq hne] at hco;have hb:=KX (v:=v) (w:=qO (qj s i) lev) oM;have hbn:=jP2 hw hw2 (show -1000000≤v by omega);have hdv:qO (qj s i) lev ∣ zc v (qO (qj s i) lev)*qO (qj s i) lev:=Int.dvd_mul_left _ _;generalize hB:zc v (qO (qj s i) lev)*qO (qj s i) lev=b at hco hb hbn hdv;rw[hco,Aq (fun k=>hbn k.2),Aq (fun k=>hbn k.2),blkR,Aq (show ¬ (lev:Int)=0 by omega),Aq (by
     rintro (k | k | k)
     ·exact hbn k
     ·rw[show inB b (-2000000) 2000000=true from zX.2 oM] at k;cases k
     ·exact k (Int.tmod_eq_zero_of_dvd hdv))]
    dsimp only;have hu:=hH (max (qj s i).low b) oM oM;refine⟨Cx oM,hu,?_⟩;rw[ql2 hm hl hu,Aq e0,Aq (fun e=>by unfold zj at e;omega)];by_cases q:(qj s i).low≤b
    ·rw[show max (qj s i).low b=b by omega];exact jp1 oM hdv
    ·rw[show max (qj s i).low b=(qj s i).low by omega,← hB]
     congr 1
     exact jA9 hw (by rw[hB];omega) (by rw[Int.add_mul,hB,Int.one_mul];omega)
structure Kn (s:Sch) (row:List Int) (l:List Pk) (v:List Int):Prop where
 len:v.length=l.length
 val:∀ i (h:i<l.length),v.getD i 0=qw s l[i].col l[i].lev (row.getD l[i].col.toNat 0)
 pick:∀ p∈l,jj s p=0∧0<p.lev
 asc:l.Pairwise fun a b=>a.col<b.col
theorem jP9 {l:List Pk} (ha:l.Pairwise fun a b=>a.col<b.col) {i:Nat} (hi:i<l.length) (h0:0<l[i].lev) (k:Int):mxl (l.take (i+1)) k=if l[i].col=k then l[i].lev else mxl (l.take i) k:=by
 rw[qz hi,jA7];split
 ·rename_i e;have h1:mxl (l.take i) k=0:=JV fun p hp=>by
   obtain⟨j,hj,rfl⟩:=List.mem_take_iff_getElem.1 hp;have:=DX.1 ha j i oM hi oM;omega
  rw[h1];omega
 ·rfl
theorem qO5 (s:Sch) (hE:schE s=0) (row:List Int) (hrow:rowE s row=0) (l:List Pk) (v:List Int) (K:Kn s row l v) (hll:l.length<1000000):∀ c,nodE s c=0→(∀ a∈atsC c,(decN s a:Int)≤mxl l a.col)→Sp 145 [schT s,cnT c,vPs l,vIs v] [] (vI (evC s row c)) []:=by
 have hok:=qU hE;obtain⟨_,hr,hrh⟩:=YQ hrow;have kl:=K.len;refine Cnd.ind' fun c ih hN hA=>?_;obtain⟨hE1,hE2⟩:=zA8 hN;have hnd:=jm5 hE1;have hks:c.kids.length≤2:=by have:=hnd.nk;unfold arC at this;grind
 rw[jm6];have hi:isAt c=((c.op==2)||(c.op==3)||(c.op==4)):=rfl;refine sIr qA0 fun e _ hst=>?_;unfold Qk;refine sW ?_;rw[← hi];refine⟨fun h=>?_,fun h=>?_⟩
 ·rw[Aj h];obtain⟨n1,n2,n3⟩:=KY hE hnd h;obtain⟨_,c1,c2,_⟩:=wA (s:=s) (c:=c.col) oM;have hca:=hA c (by rw[qj7,Aj h];exact Ey.2 rfl);obtain⟨k,hk⟩:=AJ (show 0≤c.col by omega);have hkl:k<s.cols.length:=by omega
  have hh:=hrh k oM;have hkn:c.col.toNat=k:=by omega
  rw[hkn];generalize hx:row.getD k 0=x at hh;refine qk mixm (α:=Nat) [9,10,11] (fun i=>i≤l.length) (fun i=>[(9,vI (mxl (l.take i) c.col)),(10,vI (if mxl (l.take i) c.col=0 then 0 else qw s k (mxl (l.take i) c.col) x)),(11,vI i)]) (fun i=>[aR 4096 2 [schT s],aR 4100 6 [cnT c]]) (fun i=>l.length-i) 0 oM ?_ fun i hi=>?_
  ·exact .oA (U2 4096 4100) []
  refine sD ?_;refine⟨fun h5=>?_,fun h5=>?_⟩
  ·have hi2:i<l.length:=by omega
   have hiv:i<v.length:=by omega
   have hwi:=qh (i:=i) oM;obtain⟨p1,p2⟩:=K.pick _ (AX hi2);have hh2:=jP9 K.asc hi2 p2 c.col;have hv:=K.val i hi2;rw[qg hiv] at hv;simp only[tZ,↓uU,simprocAttr,Ax,qd hi2,qd hiv,hwi,AY,Ak];refine⟨oM,kR,fun h6=>?_,fun h6=>?_⟩
   ·rw[Aj h6] at hh2;have:qw s l[i].col l[i].lev (row.getD l[i].col.toNat 0)=qw s k l[i].lev x:=by
     rw[h6,hk,Ax,hx]
    rw[this] at hv;refine⟨oM,oM,kR,i+1,oM,oM,?_⟩;rw[hh2,Aq oM,← hv];exact .oA (U2 4096 4100) []
   ·rw[Aq h6] at hh2;refine⟨i+1,oM,oM,?_⟩;rw[hh2];exact .oA (U2 4096 4100) []
  ·have hil:i=l.length:=by omega
   subst hil;rw[Bw];have hf:=qD9 hE (k:=k) oM hkl;have hMf:mxl l c.col≤finI s k:=by
    rw[hk];exact jo8 hf fun p hp e=>by rw[← e];exact (jC (K.pick p hp).1).2.2.2.2
   obtain⟨M,hM⟩:=AJ (JU l c.col);rw[hM] at hMf hca ⊢
   have hval:(if (M:Int)=0 then 0 else qw s k M x)=qw s k M x:=by
    by_cases e:(M:Int)=0
    ·rw[Aj e,e,jP8 hE hkl oM hh]
    ·rw[Aq e]
   rw[hval,hk];obtain⟨_,s2,s3⟩:=jY0 hE hkl oM hMf hh;have sS:=zt9 s hE k hkl oM M (qw s k M x) ⟨oM,hMf⟩;generalize zt8 s k M (qw s k M x)=u at s2 s3 sS;have hat:Qq s c u=Qq s c x:=by
    have:=jP3 hE hkl oM (o:=decN s c) (lev:=M) oM hMf s2 hh s3;exact jP5 hE hnd h n1 n2 (by rw[hkn];exact s2) (by rw[hkn];exact hh) (by rw[hk];exact this)
   have sA:=QI s hok c hnd u;rw[hat] at sA;refine C1.im sS rF rF ?_;refine sW ?_;rw[← hk];refine C1.im sA rF rF ?_;refine sW ?_;refine⟨kR,?_⟩;exact .oA [] []
 ·rw[Aq (by rw[h];simp)];have hAk:∀ k∈c.kids,∀ a∈atsC k,(decN s a:Int)≤mxl l a.col:=fun k hk a ha=>hA a (by
   rw[qj7,Aq (by rw[h];simp)];have key:∀ L:List Cnd,k∈L→a∈QC L:=by
    intro L
    induction L with
    | nil=>intro h;simp at h
    | cons x r ihl=>
      intro h;rw[QC,Dz];rcases Ck.1 h with e | h
      ·left;rw[← e];exact ha
      ·exact .inr (ihl h)
   exact key _ hk)
  refine qk mixm (α:=Nat) [12,13] (fun i=>i≤c.kids.length) (fun i=>[(12,.asl 1 i),(13,vI i)]) (fun i=>[aR 4096 2 [schT s],aR 4100 6 [cnT c],aR 1 1 (((c.kids.take i).map (evC s row)).map vI)]) (fun i=>c.kids.length-i) 0 oM ?_ fun i hi=>?_
  ·exact .oA [uI 4096,uI 4100,(1,none)] []
  refine sD ?_;refine⟨fun h5=>?_,fun h5=>?_⟩
  ·have hi2:i<c.kids.length:=by omega
   have hwi:=qh (i:=i) oM;simp only[tZ,↓uU,simprocAttr,Ax,qd hi2,jW];refine⟨oM,?_⟩;refine C1.im (ih _ (AX hi2) (hE2 _ (AX hi2)) (hAk _ (AX hi2))) rF rF ?_;simp only[tZ,↓uU,simprocAttr,hwi];have hlt:(c.kids.take i).length=i:=by simp;omega
   refine⟨oM,kR,i+1,oM,oM,?_⟩;rw[qz hi2,By,By];exact .oA (U3 4096 4100 1) []
  ·have hil:i=c.kids.length:=by omega
   subst hil;rw[Bw];have hj:=qn7 c.op (c.kids.map (evC s row)) (fun e=>by rw[BY,hnd.nk,e];decide) (fun e=>by rw[BY,hnd.nk];rcases e with e | e <;> rw[e] <;> decide) (fun k hk=>by
    obtain⟨x,_,rfl⟩:=Cj.1 hk;exact jI4 s row x)
   refine C1.shut [1] hj ?_ rF rfl ?_
   ·simp only[tL,simprocAttr];exact ji8 _
   refine sW ?_;exact .oA [] []
theorem qE3 (s:Sch) (hE:schE s=0) (hL:0<s.lists.length) (row:List Int) (hrow:rowE s row=0) (l:List Pk) (v:List Int) (K:Kn s row l v) (hll:l.length<1000000) (c:Cnd) (hc:chkC s c=0) (hp:kF s l=0) (hcv:covB (zD s c) l=true):Sp 89 [schT s,cnT c,vPs l,vIs v] [] (vI (evC s row c)) []:=by
 have hok:=qU hE;have hs:=hok.sm;obtain⟨_,hr,hrh⟩:=YQ hrow;obtain⟨_,_,_,hN⟩:=YU hc;have kl:=K.len;have hnc:=wK s c;have sC:=jr s hs hL c;rw[hc] at sC;have sP:=yC s hs l oM;rw[hp] at sP;have sN:=yD s hs hL c;have sV:=ZI (zD s c) l oM oM;rw[hcv] at sV;have hA:∀ a∈atsC c,(decN s a:Int)≤mxl l a.col:=fun a ha=>by
  have h1:(⟨a.col,decN s a⟩:Pk)∈atP s c:=Cj.2 ⟨a,ha,rfl⟩;have h2:=jp4 h1;dsimp only at h2;obtain⟨hnd,hia⟩:=zN0 c hN a ha;obtain⟨n1,_,_⟩:=KY hE hnd hia;obtain⟨_,c1,c2,_⟩:=wA (s:=s) (c:=a.col) oM;obtain⟨k,hk⟩:=AJ (show 0≤a.col by omega);rw[hk,← zt3 hc] at h2;rw[hk];by_cases h0:0<mxl (zD s c) k
  ·obtain⟨p,hp1,hp2,hp3⟩:=zC1 h0;unfold covB at hcv;obtain⟨y,hy,hy2⟩:=DJ.1 (Bk.1 hcv p hp1);rw[Bq,AY,AZ] at hy2;have:=jp4 hy;rw[hy2.1,hp2] at this;omega
  ·have:=JU l k;omega
 have sO:=qO5 s hE row hrow l v K hll c hN hA;generalize zD s c=N at sN sV hnc;refine sIr qz0 fun e _ hst=>?_;unfold Qc;refine sW ?_;refine C1.im sC rF rF ?_;simp only[tZ,↓uU,simprocAttr,bne_self_eq_false];refine C2.im (fun _=>sP) (fun _=>rfl) rF ?_;simp only[tZ,↓uU,simprocAttr,bne_self_eq_false,kl];refine C2.im (fun _=>sN) (fun _=>rfl) rF ?_;refine sW ?_;refine C2.im (fun _=>sV) (fun _=>rfl) rF ?_;refine sW ?_;refine qk mixm (α:=Nat) [9] (fun i=>i≤l.length) (fun i=>[(9,vI i)]) (fun i=>[aR 4096 2 [schT s],aR 4100 6 [cnT c]]) (fun i=>l.length-i) 0 oM ?_ fun i hi=>?_
 ·exact .oA (U2 4096 4100) []
 refine sD ?_;refine⟨fun h5=>?_,fun h5=>?_⟩
 ·have hi2:i<l.length:=by omega
  have hiv:i<v.length:=by omega
  have hwi:=qh (i:=i) oM;have hv:=K.val i hi2;rw[qg hiv] at hv;obtain⟨p1,p2⟩:=K.pick _ (AX hi2);obtain⟨_,q1,q2,q3,q4⟩:=jC p1;have sCn:=qa0 s hs l[i].col l[i].lev v[i];have hcan:canR s l[i].col l[i].lev v[i]=true:=by
   rw[hv];generalize l[i].col=cc at q1 q2 q4;generalize l[i].lev=ll at q3 q4;obtain⟨k,rfl⟩:=AJ (show 0≤cc by omega);obtain⟨M,rfl⟩:=AJ q3;rw[Ax];exact (jY0 hE oM oM q4 (hrh k oM)).1
  rw[hcan] at sCn;simp only[tZ,↓uU,simprocAttr,Ax,qd hi2,qd hiv,hwi]
  repeat (first | refine⟨oM,?_⟩ | refine⟨kR,?_⟩)
  refine C1.im sCn rF rF ?_;simp only[tZ,↓uU,simprocAttr,hwi];refine⟨kR,i+1,oM,oM,?_⟩;exact .oA (U2 4096 4100) []
 ·refine C1.im sO rF rF ?_;refine sW ?_;exact .oA [] []
open So
theorem zP5 {c:Col} {a v:Int} (hc : -1000000≤c.low∧c.low≤c.high∧c.high≤1000000) (ha:a=0∨(1≤qO c a∧qO c a≤1000000)) (hv:¬ (a≠0∧v=zj)) :
 (blkR c a v).2.2=(wQ c a v).2.2∧((wQ c a v).2.2=true→(blkR c a v).1=(wQ c a v).1∧(blkR c a v).2.1=(wQ c a v).2.1):=by
 unfold blkR wQ;by_cases h0:a=0
 ·rw[Aj h0,Aj h0];exact⟨rfl,fun _=>⟨rfl,rfl⟩⟩
 rw[Aq h0,Aq h0];obtain⟨w1,w2⟩:=ha.resolve_left h0;have hm:v≠zj:=fun k=>hv ⟨h0,k⟩;generalize qO c a=w at w1 w2 ⊢
 have hfl:(zc v w*w==v)=(v.tmod w==0):=by
  rw[Bool.eq_iff_iff,zP1,AY];constructor
  ·intro h;exact⟨zc v w,by rw[Int.mul_comm];exact h.symm⟩
  ·intro h;exact jp1 oM h
 by_cases hr:v < -2000000∨v>1000000
 ·rw[Aj hr];refine⟨?_,fun h=>by cases h⟩;by_cases hb:v=zj∨inB v (-2000000) 2000000=false∨v.tmod w≠0
  ·rw[Aj hb]
  ·rw[Aq hb];have:inB v (-2000000) 2000000=true:=by
    cases e:inB v (-2000000) 2000000 with
    | true=>rfl
    | false=>exact absurd (.inr (.inl e)) hb
   rw[zX] at this;exact Cq oM
 ·rw[Aq hr];have hin:inB v (-2000000) 2000000=true:=zX.2 oM;by_cases hb:v.tmod w=0
  ·rw[Aq (by rw[hin];simp [hm,hb]),hfl,AY.2 hb,Fq];dsimp only;rw[Int.max_comm,Int.min_comm];exact⟨rfl,fun _=>⟨rfl,rfl⟩⟩
  ·rw[Aj (.inr (.inr hb)),hfl,Ak.2 hb,Bool.false_and];exact⟨rfl,fun h=>by cases h⟩
theorem ze7 {s:Sch} (hE:schE s=0) {i:Nat} (hi:i<s.cols.length) (h0:0<i) {a:Int} (ha:0≤a∧a≤finI s i) (v:Int):canR s i a v=(zs9 s i a v).2:=by
 have hok:=qU hE;rw[canR,Aq (by rw[Ez,zX];exact ha),Ax];by_cases h2:(qj s i).kind=2
 ·rw[Aj h2,zs9,Aq oM];have hco:∀ y∈qJ s i,upC (qQ s i) y a=qw s i a y:=fun y hy=>by
   have h3:=(wS hok hi h2).2 hy;rw[qw,Aq (by rw[Ez,zX];omega),Ax,Aj h2,Aq (by rw[h3];simp)]
  cases hf:(qJ s i).find? fun l=>upC (qQ s i) l a==v with
  | none=>
    show ((qJ s i).any fun x=>qw s i a x==v)=false;rw[List.any_eq_false];intro y hy;have:=List.find?_eq_none.1 hf y hy;rw[hco y hy] at this;exact this
  | some y=>
    show ((qJ s i).any fun x=>qw s i a x==v)=true;have h1:=List.mem_of_find?_eq_some hf;have h3:=List.find?_some hf;rw[hco y h1] at h3;exact DJ.2 ⟨y,h1,h3⟩
 ·have hM:=QK hE hi h0 h2;rw[Aq h2,zs9,Aj hM.kind];by_cases hm:0<a∧v=zj
  ·rw[Aj hm,Aj (show a>0∧v=zj from hm)]
  ·rw[Aq hm,Aq (show ¬ (a>0∧v=zj) from hm)];obtain⟨n,rfl⟩:=AJ ha.1;have hf:=hM.fin;exact (zP5 hM.lh (by
    rcases DQ n with e | e
    ·left;omega
    ·right;exact⟨hM.wid n oM oM,jp2 hE hi h0 h2 oM oM⟩) oM).1
theorem jQ0 {c:Col} {a v:Int} (hc:c.low≤c.high) (h:(wQ c a v).2.2=true):c.low≤(wQ c a v).1∧(wQ c a v).1≤(wQ c a v).2.1∧(wQ c a v).2.1≤c.high:=by
 unfold wQ at h ⊢
 split
 ·exact⟨by dsimp only;omega,by dsimp only;omega,by dsimp only;omega⟩
 ·rename_i h0;rw[Aq h0] at h;split
  ·rename_i h1;rw[Aj h1] at h;cases h
  ·rename_i h1;rw[Aq h1,Bq,AZ] at h;dsimp only at h ⊢
   omega
theorem zu0 (s:Sch) (hs:jO s) (c a v b:Int):Sp 90 [schT s,vI c,vI a,vI v,vI b] [] (.tup [vI (qE2 s c a v b).1,vB (qE2 s c a v b).2]) []:=by
 have sCan:=qa0 s hs c a v;have sFin:=zQ s hs c;have sIn:=zJ b 0 (finI s c);by_cases hbad:canR s c a v=false∨inB b 0 (finI s c)=false
 ·have hT:qE2 s c a v b=(0,false):=by
   by_cases hin:inB a 0 (finI s c)=false∨inB b 0 (finI s c)=false
   ·rw[qE2,Aj hin]
   ·have hA:inB a 0 (finI s c)=true:=by cases h:inB a 0 (finI s c) with
     | true=>rfl
     | false=>exact absurd (.inl h) hin
    have hB:inB b 0 (finI s c)=true:=by cases h:inB b 0 (finI s c) with
     | true=>rfl
     | false=>exact absurd (.inr h) hin
    have hcn:canR s c a v=false:=by
     rcases hbad with h | h
     ·exact h
     ·rw[hB] at h;cases h
    rw[zX] at hA hB;obtain⟨hE,c1,c2,_⟩:=wA (s:=s) (c:=c) oM;obtain⟨k,rfl⟩:=AJ (show 0≤c by omega);have hk:k<s.cols.length:=by omega
    have hok:=qU hE;rw[qE2,Aq hin,Ax];rw[ze7 hE hk oM hA] at hcn;by_cases h2:(qj s k).kind=2
    ·rw[Aj h2];rw[zs9,Aq oM] at hcn;cases hf:(qJ s k).find? fun l=>upC (qQ s k) l a==v with
     | some y=>rw[hf] at hcn;cases hcn
     | none=>
       have:(qJ s k).filter (fun x=>upC (qQ s k) x a==v)=[]:=List.filter_eq_nil_iff.2 fun y hy=>List.find?_eq_none.1 hf y hy;unfold qE1;rw[this]
       rfl
    ·have hM:=QK hE hk oM h2;rw[zs9,Aj hM.kind] at hcn;rw[Aq h2,Yb];by_cases hm:0<a∧v=zj
     ·rw[Aj hm] at hcn ⊢
      dsimp only at hcn ⊢
      rw[hcn,Aq sMp]
     ·rw[Aq hm] at hcn ⊢
      rw[Aj hcn]
      rfl
  rw[hT];refine sIr Ju fun e _ hst=>?_;unfold kU;refine sW ?_;refine C1.im sCan rF rF ?_;refine sW ?_;refine C2.im (fun _=>sFin) (fun _=>rfl) rF ?_;refine sW ?_;refine C2.im (fun _=>sIn) (fun _=>rfl) rF ?_;simp only[tZ,↓uU,simprocAttr,tD,Bx,Bz];refine⟨fun _=>?_,fun k=>by rcases hbad with h | h <;> simp [h] at k⟩;exact .oA [] []
 have hcn:canR s c a v=true:=by cases h:canR s c a v with
  | true=>rfl
  | false=>exact absurd (.inl h) hbad
 have hB:inB b 0 (finI s c)=true:=by cases h:inB b 0 (finI s c) with
  | true=>rfl
  | false=>exact absurd (.inr h) hbad
 have hA:inB a 0 (finI s c)=true:=by cases h:inB a 0 (finI s c) with
  | true=>rfl
  | false=>rw[canR,Aj h] at hcn;cases hcn
 have hT:qE2 s c a v b=(let r:=if (qj s c.toNat).kind=2 then qE1 (qJ s c.toNat) (fun x=>upC (qQ s c.toNat) x a) (fun x=>upC (qQ s c.toNat) x b) v else Yb (qj s c.toNat) a v b
  (if r.2=true then r.1 else 0,r.2)):=by rw[qE2,Aq (by rw[hA,hB];simp)]
 rw[hT];rw[zX] at hA;have hB2:=zX.1 hB;obtain⟨hE,c1,c2,_⟩:=wA (s:=s) (c:=c) oM;obtain⟨k,rfl⟩:=AJ (show 0≤c by omega);have hk:k<s.cols.length:=by omega
 have hok:=qU hE;have hat:qj s k=s.cols[k]:=by rw[qj,qg hk]
 have hsome:=ze7 hE hk oM hA v;rw[hcn] at hsome
 replace hsome:=hsome.symm
 rw[Ax];dsimp only;rw[hcn] at sCan;rw[hB] at sIn;by_cases h2:(qj s k).kind=2
 ·rw[Aj h2];have hLf:=ju s hok k hk h2;have hLl:=jn hok hk h2;have sCo:=fun l y=>zo s hs k l y;have hco:∀ l,0≤l→l≤finI s k→∀ y∈qJ s k,qw s k l y=upC (qQ s k) y l:=fun l l0 hl y hy=>by
   have h3:=(wS hok hk h2).2 hy;rw[qw,Aq (by rw[Ez,zX];omega),Ax,Aj h2,Aq (by rw[h3];simp)]
  have hge:∀ y∈qJ s k,0≤upC (qQ s k) y b:=fun y hy=>by
   obtain⟨l,rfl⟩:=AJ hB2.1;rw[← hco l oM hB2.2 y hy];obtain⟨c,_,_,_,e⟩:=ze1 hE hk oM h2 hB2.2 ((wS hok hk h2).2 hy);rw[e];omega
  have hne:∃ y∈qJ s k,upC (qQ s k) y a=v:=by
   rw[zs9,Aq oM] at hsome;cases hf:(qJ s k).find? fun l=>upC (qQ s k) l a==v with
   | none=>rw[hf] at hsome;cases hsome
   | some y=>exact⟨y,List.mem_of_find?_eq_some hf,by simpa using List.find?_some hf⟩
  have hcoA:=hco a hA.1 hA.2;have hcoB:=hco b hB2.1 hB2.2;rw[hat] at h2;generalize qJ s k=L at hLf hLl hge hne hcoA hcoB ⊢
  refine sIr Ju fun e _ hst=>?_;unfold kU;refine sW ?_;refine C1.im sCan rF rF ?_;refine sW ?_;refine C2.im (fun _=>sFin) (fun _=>rfl) rF ?_;refine sW ?_;refine C2.im (fun _=>sIn) (fun _=>rfl) rF ?_;simp only[tZ,↓uU,simprocAttr,Ax,qd hk,AY,Ak];generalize s.cols[k]=x at h2 ⊢
  refine⟨oM,fun _=>?_,fun h=>absurd h2 h⟩;refine C1.im hLf rF rF ?_;refine sW ?_;refine qk mixm (α:=Nat×Int×Bool) [14,15] (fun y=>y.1≤L.length∧TcI (fun x=>upC (qQ s k) x b) ((L.take y.1).filter fun x=>upC (qQ s k) x a==v) y.2.1 y.2.2∧(y.2.2=true→0≤y.2.1)) (fun y=>[(14,vI (if y.2.2=true then y.2.1 else -1)),(15,vI y.1)]) (fun y=>[aR 4096 2 [schT s]]) (fun y=>L.length-y.1) (0,0,false) ⟨sMp,.inl ⟨rfl,rfl,rfl⟩,fun h=>by cases h⟩ ?_ fun y hy=>?_
  ·exact .oA (U1 4096) []
  obtain⟨i,o,t⟩:=y;obtain⟨y1,y2,y3⟩:=hy;dsimp only at y1 y2 y3;refine sD ?_;refine⟨fun h3=>?_,fun h3=>?_⟩
  ·have hi2:i<L.length:=by omega
   have hwi:=qh (i:=i) oM;have hsp:=zC2 (f:=fun x=>upC (qQ s k) x a) (v:=v) hi2;have hbd:=fun e=>zV1 (f:=fun x=>upC (qQ s k) x a) (g:=fun x=>upC (qQ s k) x b) (v:=v) (o:=o) hi2 e;have sA:=sCo a L[i];have sB:=sCo b L[i];rw[hcoA _ (AX hi2)] at sA;rw[hcoB _ (AX hi2)] at sB;have hgi:=hge _ (AX hi2);simp only[tZ,↓uU,simprocAttr,Ax,qd hi2];refine⟨oM,?_⟩;refine C1.im sA rF rF ?_;simp only[tZ,↓uU,simprocAttr,Bj,Aw,hwi,Ax,qd hi2];refine⟨kR,fun h4=>?_,fun h4=>?_⟩
   ·rw[Aq (by rw[AY];exact h4),CW] at hsp;refine⟨(i+1,o,t),⟨by dsimp only;omega,by dsimp only;rw[hsp];exact y2,y3⟩,by dsimp only;omega,?_⟩;exact .oA (U1 4096) []
   rw[Aj (AY.2 h4)] at hsp;refine⟨oM,?_⟩;refine C1.im sB rF rF ?_;generalize L[i]=x at hsp hbd h4 hgi ⊢
   cases t with
   | false=>
     simp only[tZ,↓uU,simprocAttr,hwi];refine⟨kR,?_⟩;refine⟨(i+1,upC (qQ s k) x b,true),⟨by dsimp only;omega,?_,fun _=>hgi⟩,by dsimp only;omega,?_⟩
     ·dsimp only;rw[hsp];rcases y2 with⟨k1,k2,k3⟩ | ⟨z,r,k1,k2,k3,k4⟩
      ·exact .inr ⟨x,[],by rw[k1];rfl,sMp,rfl,rfl⟩
      ·cases k4
     ·exact .oA (U1 4096) []
   | true=>
     simp only[tZ,↓uU,simprocAttr,tD,Bj,Aw,hwi];refine⟨kR,fun h5=>?_,fun h5=>?_⟩
     ·rw[hbd y2 (AY.2 h4) h5.2];exact .oA [] []
     ·have hx:upC (qQ s k) x b=o:=by
       have:=y3 rfl;omega
      refine⟨(i+1,upC (qQ s k) x b,true),⟨by dsimp only;omega,?_,fun _=>hgi⟩,by dsimp only;omega,?_⟩
      ·dsimp only;rw[hsp];rcases y2 with⟨k1,k2,k3⟩ | ⟨z,r,k1,k2,k3,k4⟩
       ·cases k3
       ·refine .inr ⟨z,r++[x],by rw[k1];rfl,fun y hy=>?_,by rw[hx,k3],rfl⟩;rcases Dz.1 hy with hy | hy
        ·exact k2 y hy
        ·rw[Ey.1 hy];dsimp only;rw[hx,k3]
      ·exact .oA (U1 4096) []
  ·have hil:i=L.length:=by omega
   subst hil;rw[Bw] at y2;rw[TcI.fin y2];have ht:t=true:=by
    rcases y2 with⟨m1,_,_⟩ | ⟨_,_,_,_,_,m⟩
    ·obtain⟨y,q1,q2⟩:=hne;have:=List.filter_eq_nil_iff.1 m1 y q1;rw[q2] at this;simp at this
    ·exact m
   subst ht;exact .oA [] []
 ·rw[Aq h2];have hM:=QK hE hk oM h2;rw[zs9,Aj hM.kind] at hsome;have hf:=hM.fin;have hw:=fun lev (h1:0≤lev∧lev≤finI s k)=>show lev=0∨(1≤lev∧lev≤(qj s k).widths.length∧(qj s k).widths.length≤4∧1≤qO (qj s k) lev∧qO (qj s k) lev≤1000000) by
   rcases Int.lt_or_le 0 lev with q | q
   ·right
    obtain⟨w1,w2,_,w4,_⟩:=hok.wid hk oM h2 (lev:=lev) oM;exact⟨oM,oM,w4,w1,w2⟩
   ·left;omega
  have sBk:=JW (qj s k) a v (hw a hA);have sCo:=fun y=>zo s hs k b y;rw[hat] at h2 sBk hsome;have hTm:Yb s.cols[k] a v b=Yb (qj s k) a v b:=by rw[hat]
  rw[← hTm];refine sIr Ju fun e _ hst=>?_;unfold kU;refine sW ?_;refine C1.im sCan rF rF ?_;refine sW ?_;refine C2.im (fun _=>sFin) (fun _=>rfl) rF ?_;refine sW ?_;refine C2.im (fun _=>sIn) (fun _=>rfl) rF ?_;simp only[tZ,↓uU,simprocAttr,Ax,qd hk,AY,Ak];refine⟨oM,fun h=>absurd h h2,fun _=>?_⟩;have hlh:=hM.lh;have hmi:zj = -1099511627776:=rfl;have hkind:=hM.kind;have cT:Yb s.cols[k] a v b=if 0<a∧v=zj then ((if b=0 then 0 else v),s.cols[k].opt)
   else if (wQ s.cols[k] a v).2.2=false then (0,false)
   else if b=0 then (0,true)
   else if a=0∧s.cols[k].opt=true then (0,false)
   else (zc (wQ s.cols[k] a v).1 (qO s.cols[k] b)*qO s.cols[k] b,zc (wQ s.cols[k] a v).1 (qO s.cols[k] b)*qO s.cols[k] b==zc (wQ s.cols[k] a v).2.1 (qO s.cols[k] b)*qO s.cols[k] b):=rfl
  refine⟨fun h3=>?_,fun h3=>⟨fun h4=>?_,fun h4=>⟨fun h5=>?_,fun h5=>?_⟩⟩⟩
  ·have e:Yb s.cols[k] a v b=(0,true):=by
    rw[cT];by_cases hm:0<a∧v=zj
    ·rw[Aj hm] at hsome ⊢
     rw[Aj h3];exact Prod.ext rfl hsome
    ·rw[Aq hm] at hsome ⊢
     dsimp only at hsome;rw[Aq (by rw[hsome];simp),Aj h3]
   rw[e];exact .oA [] []
  ·rw[Bq,AZ,AY] at h4;have hm:0<a∧v=zj:=⟨oM,h4.2⟩;have e:Yb s.cols[k] a v b=(-1099511627776,true):=by
    rw[cT];rw[Aj hm] at hsome ⊢
    rw[Aq h3];exact Prod.ext h4.2 hsome
   rw[e];exact .oA [] []
  ·rw[Bq,AY] at h5;have hm:¬ (0<a∧v=zj):=by omega
   rw[Aq hm] at hsome;dsimp only at hsome;have e:Yb s.cols[k] a v b=(0,false):=by
    rw[cT,Aq hm,Aq (by rw[hsome];simp),Aq h3,Aj h5]
   rw[e];exact .oA [] []
  ·have hm:¬ (0<a∧v=zj):=fun q=>by
    rw[Bool.eq_false_iff] at h4;exact h4 (by rw[Bq,AZ,AY];exact⟨oM,q.2⟩)
   have hno:¬ (a=0∧s.cols[k].opt=true):=fun q=>by
    rw[Bool.eq_false_iff] at h5;exact h5 (by rw[Bq,AY];exact q)
   rw[Aq hm] at hsome;dsimp only at hsome;rw[hat] at hlh hkind hw hf;obtain⟨g1,g2,g3⟩:=jQ0 oM hsome;obtain⟨b1,b2⟩:=zP5 (c:=s.cols[k]) (a:=a) (v:=v) hlh (by have:=hw a hA;omega) oM;obtain⟨b3,b4⟩:=b2 hsome;have e:Yb s.cols[k] a v b=(zc (wQ s.cols[k] a v).1 (qO s.cols[k] b)*qO s.cols[k] b,zc (wQ s.cols[k] a v).1 (qO s.cols[k] b)*qO s.cols[k] b==zc (wQ s.cols[k] a v).2.1 (qO s.cols[k] b)*qO s.cols[k] b):=by
    rw[cT,Aq hm,Aq (by rw[hsome];simp),Aq h3,Aq hno]
   obtain⟨l,hl⟩:=AJ hB2.1;have hcm:∀ y,s.cols[k].low≤y→y≤s.cols[k].high→qw s k b y=zc y (qO s.cols[k] b)*qO s.cols[k] b:=fun y y1 y2=>by
    have hy:zn s k y=true:=(wR hM.kind).2 (.inr (by rw[hat];exact⟨y1,y2⟩));have:=ql2 hM (lev:=l) oM hy;rw[hl,this,Aq oM,Aq oM,hat]
   have sC1:=sCo (blkR s.cols[k] a v).1;have sC2:=sCo (blkR s.cols[k] a v).2.1;rw[b3] at sC1;rw[b4] at sC2;rw[hcm _ oM oM] at sC1 sC2;rw[e];refine C1.im sBk rF rF ?_;rw[b3,b4];generalize zc (wQ s.cols[k] a v).1 (qO s.cols[k] b)*qO s.cols[k] b=X at sC1 ⊢
   generalize zc (wQ s.cols[k] a v).2.1 (qO s.cols[k] b)*qO s.cols[k] b=Y at sC2 ⊢
   refine sW ?_;refine C1.im sC1 rF rF ?_;refine sW ?_;refine C1.im sC2 rF rF ?_;simp only[tZ,↓uU,simprocAttr,Bj,Aw];refine⟨kR,fun h6=>?_,fun h6=>?_⟩
   ·rw[Ak.2 h6,Aq sMp];exact .oA [] []
   ·rw[AY.2 h6,Aj rfl];exact .oA [] []
theorem ze8 (s:Sch) (hs:jO s) (hE:schE s=0) (x:Ext) (hpl:x.picks.length≤1000) (hrn:x.rows.length≤1000000) (hr:∀ r∈x.rows,r.length=x.picks.length+1) (r c lev:Int):Sp 33 [schT s,extT x,vI r,vI c,vI lev] [] (.tup [vI (if r<0∨r≥x.rows.length then 0 else (knwI s x r.toNat c lev).1),vB (if r<0∨r≥x.rows.length then false else (knwI s x r.toNat c lev).2)]) []:=by
 by_cases h1:r<0∨r≥x.rows.length
 ·rw[Aj h1,Aj h1];refine sIr QV fun e _ hst=>?_;unfold jX;refine sD ?_;refine⟨fun _=>?_,fun k=>by omega⟩;exact .oA [] []
 rw[Aq h1,Aq h1];obtain⟨j,rfl⟩:=AJ (show 0≤r by omega);have hj:j<x.rows.length:=by omega
 have hrl:=hr _ (AX hj);rw[Ax];by_cases h2:c<1∨c≥s.cols.length
 ·have hT:knwI s x j c lev=(0,false):=by
   have:finI s c = -1:=by rw[finI,Aj oM]
   rw[knwI,qE2,Aj (by
    right
    rw[this,zq9];omega)]
  rw[hT];refine sIr QV fun e _ hst=>?_;unfold jX;refine sD ?_;refine⟨fun _=>?_,fun k=>by omega⟩;exact .oA [] []
 have sT:=fun a v=>zu0 s hs c a v lev;have hnone:(x.picks.any fun p=>p.col==c)=false→knwI s x j c lev=qE2 s c 0 0 lev:=fun ha=>by rw[knwI,knwP,Aq (by rw[ha];simp)]
 have hhit:∀ i (hi:i<x.picks.length),((x.picks.take i).any fun p=>p.col==c)=false→(x.picks[i].col==c)=true→knwI s x j c lev=qE2 s c x.picks[i].lev (x.rows[j].getD (i+1) 0) lev:=fun i hi h3 h4=>by
  have e:=jt (p:=fun p:Pk=>p.col==c) hi h3 h4;rw[knwI,knwP,Aj (qn1 (p:=fun p:Pk=>p.col==c) hi h4),e,qg hi,qg hj]
 generalize knwI s x j c lev=w at hnone hhit ⊢
 refine sIr QV fun e _ hst=>?_;unfold jX;refine sD ?_;refine⟨fun k=>by omega,fun _=>?_⟩;refine qk mixm (α:=Nat) [12] (fun i=>i≤x.picks.length∧(((x.picks.take i).any fun p=>p.col==c)=false)) (fun i=>[(12,vI i)]) (fun i=>[aR 4096 2 [schT s],aR 4100 4 [extT x]]) (fun i=>x.picks.length-i) 0 ⟨oM,?_⟩ ?_ fun i hi=>?_
 ·rfl
 ·exact .oA (U2 4096 4100) []
 simp only[tZ,↓uU,simprocAttr,AZ,Ay];refine⟨fun h=>?_,fun h=>?_⟩
 ·have hi2:i<x.picks.length:=by omega
  have hwi:=qh (i:=i) oM;have hil:i+1<x.rows[j].length:=by omega
  have hgr:(x.rows[j].map vI).getD (i+1) .junk=vI (x.rows[j].getD (i+1) 0):=by rw[qd hil,qg hil]
  have hi2:i<x.picks.length:=by omega
  have hwi:=qh (i:=i) oM;simp only[tZ,↓uU,simprocAttr,Ax,qd hi2,hwi,qd hj];refine⟨oM,fun h3=>?_,fun h3=>?_⟩
  ·have sTi:=sT x.picks[i].lev (x.rows[j].getD (i+1) 0);rw[← hhit i hi2 hi.2 h3] at sTi;simp only[tZ,↓uU,simprocAttr,Ax,qd hi2,qd hj,hwi,hgr];refine⟨oM,oM,oM,?_⟩;refine C1.im sTi rF rF ?_;refine sW ?_;refine⟨kR,?_⟩;exact .oA [] []
  ·refine⟨i+1,⟨oM,zG hi2 hi.2 h3⟩,oM,?_⟩;exact .oA (U2 4096 4100) []
 ·have hi2:i=x.picks.length:=by omega
  subst hi2;have sTi:=sT 0 0;have h3:=hi.2;rw[Bw] at h3;rw[← hnone h3] at sTi;refine C1.im sTi rF rF ?_;refine sW ?_;exact .oA [] []
theorem qg1 (s:Sch) (hs:jO s) (x:Ext) (hp:x.picks.length<4611686018427387904) (hr:∀ r∈x.rows,r.length<4611686018427387904):Sp 27 [schT s,extT x] [] (vI (extE s x)) []:=by
 refine sIr qG8 fun e _ hst=>?_;unfold QU;refine sW ?_;refine C1.im (zt s hs) rF rF ?_;simp only[tZ,↓uU,simprocAttr,Bj,Aw];refine⟨fun h=>?_,fun h=>?_⟩
 ·rw[extE,Aj h];exact .oA [] []
 rw[extE,Aq (by rw[h];simp)];refine C1.im (jJ x.proj) rF rF ?_;simp only[tZ,↓uU,simprocAttr,tD,Bx,Bz,gt_iff_lt];refine⟨fun h2=>?_,fun h2=>⟨fun h3=>?_,fun h3=>?_⟩⟩
 ·rw[Aj h2];exact .oA [] []
 ·rw[Aq (by rw[h2];simp),Aj h3];exact .oA [] []
 rw[Aq (by rw[h2];simp),Aq oM];refine C1.im (yC s hs x.picks hp) rF rF ?_;simp only[tZ,↓uU,simprocAttr,Bj,Aw];refine⟨fun h4=>?_,fun h4=>?_⟩
 ·rw[Aj h4];exact .oA [] []
 rw[Aq (by rw[h4];simp)];simp only[tZ,↓uU,simprocAttr,tD,gt_iff_lt];refine⟨fun h5=>?_,fun h5=>?_⟩
 ·rw[Aj oM];exact .oA [] []
 rw[Aq oM];have hpl:=zs3 h4;obtain⟨hE,hpk,_⟩:=qe7 h4;generalize hEE:ji (zV3 s x) x.rows.length=E;refine qk mixm (α:=Nat) [7] (fun i=>i≤x.rows.length∧(ji (zV3 s x) i=0)) (fun i=>[(7,vI i)]) (fun i=>[aR 4096 2 [schT s],aR 4100 4 [extT x]]) (fun i=>x.rows.length-i) 0 ⟨oM,?_⟩ ?_ fun i hi=>?_
 ·rfl
 ·exact .oA (U2 4096 4100) []
 simp only[tZ,↓uU,simprocAttr,AZ,Ay];refine⟨fun h=>?_,fun h=>?_⟩
 ·have hi2:i<x.rows.length:=by omega
  have hg:x.rows.getD i []=x.rows[i]:=qg hi2;have hstep:=yL hi.2 hi2;have hnext:=jK hi.2;have hA:zV3 s x i=if fitX s x.picks x.rows[i]=false then 9 else if 0<i∧hd x.rows[i]≤hd (x.rows.getD (i-1) []) then 10 else 0:=by rw[zV3,hg]
  have hprev:0<i→fitX s x.picks (x.rows.getD (i-1) [])=true:=fun h0=>by
   have:=yK hi.2 (i-1) oM;unfold zV3 at this;split at this
   ·cases this
   ·rename_i k;simpa using k
  rw[hEE] at hstep;have hwl:=qh (i:=x.picks.length) oM;have hwi:=qh (i:=i) oM;have hnofit:fitX s x.picks x.rows[i]=false→E=9:=fun hf=>by
   rw[Aj hf] at hA;rw[hstep (by rw[hA];simp),hA]
  by_cases hl:x.rows[i].length=x.picks.length+1
  ·have hip:0<x.rows[i].length:=by omega
   have hgi:=kC hip;have q1:((x.rows[i].length:Int) != ((x.picks.length+1:Nat):Int))=false:=by rw[Aw];omega
   have hX:fitX s x.picks x.rows[i]=(decide (0≤hd x.rows[i])&&decide (hd x.rows[i]≤1048575)&&(List.range x.picks.length).all (fitV s x.picks x.rows[i])):=by
    rw[fitX,AY.2 hl,Fq]
   obtain⟨k,hk1,hk2,hk3⟩:∃ k:Nat,(IntKind.i64.wrap ((i:Int)-1)).toNat=k∧k<x.rows.length∧(i=0∧k=0∨0<i∧k+1=i∧IntKind.i64.wrap ((i:Int)-1)=k):=by
    rcases DQ i with h0 | h0
    ·subst h0;exact⟨0,by decide,hi2,.inl ⟨rfl,rfl⟩⟩
    ·have e:=kM h0 (show i<4611686018427387904 by omega);exact⟨i-1,by rw[e];omega,oM,.inr ⟨h0,oM,e⟩⟩
   have hkp:0<x.rows[k].length:=by
    rcases hk3 with⟨a,b⟩ | ⟨a,b,_⟩
    ·subst a;subst b;exact hip
    ·have:=(jP7 (hprev a)).1;rw[show i-1=k by omega,qg hk2] at this;omega
   have hgk:0<i→x.rows.getD (i-1) []=x.rows[k]:=fun h0=>by
    rw[show i-1=k by omega,qg hk2]
   have hi2:i<x.rows.length:=by omega
   have hwi:=qh (i:=i) oM;simp only[tZ,↓uU,simprocAttr,Ax,qd hi2,hwi,hwl,q1,hgi];refine⟨oM,oM,fun _=>by omega,fun h6=>?_,fun h6=>?_⟩
   ·rw[hnofit (by
     rw[hX,show (decide (0≤hd x.rows[i])&&decide (hd x.rows[i]≤1048575))=false from by
      rw[Bool.eq_false_iff];intro k;simp only[Bq,AZ,DZ] at k h6;omega,Bool.false_and])]
    exact .oA [] []
   have h6':(decide (0≤hd x.rows[i])&&decide (hd x.rows[i]≤1048575))=true:=by
    simp only[Bq,AZ,FX,Ay] at h6 ⊢
    omega
   rw[h6',Fq] at hX;refine qk mixm (α:=Nat) [9] (fun n=>n≤x.picks.length∧(List.range n).all (fitV s x.picks x.rows[i])=true) (fun n=>[(9,vI n)]) (fun n=>[aR 4096 2 [schT s],aR 4100 4 [extT x]]) (fun n=>x.picks.length-n) 0 ⟨oM,rfl⟩ ?_ fun n hn=>?_
   ·exact .oA (U2 4096 4100) []
   refine sD ?_;refine⟨fun h7=>?_,fun h7=>?_⟩
   ·have hn2:n<x.picks.length:=by omega
    have hwn:=qh (i:=n) oM;have hpn:=jC (hpk _ (AX hn2));obtain⟨c,hc⟩:=AJ (show 0≤x.picks[n].col by omega);have hrl:n+1<x.rows[i].length:=by omega
    have hgr:(x.rows[i].map vI).getD (n+1) .junk=vI (x.rows[i].getD (n+1) 0):=by rw[qd hrl,qg hrl]
    have sC:=qa0 s hs x.picks[n].col x.picks[n].lev (x.rows[i].getD (n+1) 0);have hV:canR s x.picks[n].col x.picks[n].lev (x.rows[i].getD (n+1) 0)=fitV s x.picks x.rows[i] n:=by
     rw[hc] at hpn ⊢
     rw[ze7 hE oM oM oM,fitV,qg hn2,hc,Ax]
    rw[hV] at sC;simp only[tZ,↓uU,simprocAttr,Ax,qd hn2,hwn,hgr];refine⟨oM,oM,oM,?_⟩;refine C1.im sC rF rF ?_;simp only[tZ,↓uU,simprocAttr,Bx,Bz,hwn];refine⟨kR,fun h8=>?_,fun h8=>?_⟩
    ·rw[hnofit (by rw[hX,jp6 hn2 h8])];exact .oA [] []
    ·refine⟨n+1,⟨oM,by rw[zV2,hn.2,h8];rfl⟩,oM,?_⟩;exact .oA (U2 4096 4100) []
   ·have hnl:n=x.picks.length:=by omega
    subst hnl;have hn2:=hn.2;rw[hn2] at hX;rw[Aq (by rw[hX];simp)] at hA;simp only[tZ,↓uU,simprocAttr,hk1,qd hk2,hgi,kC hkp,tD,gt_iff_lt,hwi];refine⟨fun _=>by omega,fun _=>by omega,fun _=>by omega,kR,fun h8=>?_,fun h8=>?_⟩
    ·have h9:0<i:=by omega
     rw[Aj ⟨h9,by rw[hgk h9];exact h8.2⟩] at hA;rw[hstep (by rw[hA];simp),hA];exact .oA [] []
    ·rw[Aq (fun k=>by
      have h9:=k.1;rw[hgk h9] at k;omega)] at hA
     refine⟨i+1,⟨oM,by rw[hnext,hA]⟩,oM,?_⟩;exact .oA (U2 4096 4100) []
  ·have hf:fitX s x.picks x.rows[i]=false:=by
    rw[fitX,Ak.2 hl];rfl
   have q1:((x.rows[i].length:Int) != ((x.picks.length+1:Nat):Int))=true:=by rw[Bj];omega
   rw[hnofit hf];by_cases h0:0<x.rows[i].length
   ·have hgi:=kC h0;have hi2:i<x.rows.length:=by omega
    have hwi:=qh (i:=i) oM;simp only[tZ,↓uU,simprocAttr,Ax,qd hi2,hwi,hwl,q1,hgi];refine⟨oM,?_⟩;exact .oA [] []
   ·have h0e:x.rows[i]=[]:=Dy.1 oM;have hb1:∀ n,binR BinOp.lss false (((List.map vI ([]:List Int)).getD 0 T.junk).cells.getD 0 T.junk) (T.v (Value.int IntKind.i64 n))=none:=fun _=>rfl;have hb2:∀ n,binR BinOp.gtr false (((List.map vI ([]:List Int)).getD 0 T.junk).cells.getD 0 T.junk) (T.v (Value.int IntKind.i64 n))=none:=fun _=>rfl;have q0:((0:Int) != ((x.picks.length+1:Nat):Int))=true:=by rw[Bj];omega
    have hi2:i<x.rows.length:=by omega
    have hwi:=qh (i:=i) oM;simp only[tZ,↓uU,simprocAttr,Ax,qd hi2,hwi,h0e,hwl,q0,hb1,hb2];refine⟨oM,?_⟩;exact .oA [] []
 ·have hi2:i=x.rows.length:=by omega
  subst hi2;rw[← hEE,hi.2];exact .oA [] []
theorem jB1 {e:Env} {s s' s2:St} (h1:Le e s s') (h2:Le e s' s2):Le e s s2:=fun ι a w hR=>by
 obtain⟨ι',hR'⟩:=h1 ι a w hR;exact h2 ι' a w hR'
def yG (s:Sch) (n:Nat):List Pk:=(List.range n).map fun k:Nat=>⟨((k+1:Nat):Int),finI s ((k+1:Nat):Int)⟩
theorem zV4 (s:Sch) (n:Nat):yG s (n+1)=yG s n++[⟨((n+1:Nat):Int),finI s ((n+1:Nat):Int)⟩]:=by
 rw[yG,List.range_succ,By];rfl
theorem qE4 (s:Sch) (n:Nat):(yG s n).length=n:=by rw[yG,BY,List.length_range]
def allQ:Qst:=⟨⟨#[113]⟩,1,.mk 1 0 0 0 0 [],[⟨1,0⟩],-1,[],cnd0⟩
def allD:Dcl:=⟨⟨#[97,108,108,95,114,111,119,115]⟩,⟨#[115,114,99]⟩,.mk 1 0 0 0 0 [],⟨1,1,0⟩,[allQ]⟩
theorem zV5 (s:Sch) (hs:jO s) (h1:1≤s.cols.length) (hsm2:s.cols.length≤1000000):Sp 24 [schT s] [] (.tup [dclT allD,vPs (yG s (s.cols.length-1))]) []:=by
 have hsm:=hs.2.1;refine zU [8] zy6 mixm sMp fun e _ hst=>kL ?_;unfold Yq;simp only[wV,List.contains_cons,List.contains_nil,Nat.reduceBEq,Bool.or_false,Bool.or_true,Bool.true_or,Bool.false_or,cond_true,cond_false];refine sW ?_;refine qk mixm (α:=Nat) [5,6] (fun i=>i+1≤s.cols.length) (fun i=>[(5,.asl 1 i),(6,vI (i+1:Nat))]) (fun i=>[aR 4096 2 [schT s],aR 4100 12 [.agg [vS ⟨#[]⟩,vS ⟨#[]⟩,vI 0,vI 0,vI 0,vI 0,vI 0,.v (.slice none 0 0),vI 0,vI 0,vI 0,.v (.slice none 0 0)]],aR 8204 12 [.agg [vS allD.proj,vS allD.src,vI 1,vI 0,vI 0,vI 0,vI 0,.v (.slice none 0 0),vI 1,vI 1,vI 0,.v (.slice none 0 0)]],aR 1 2 ((yG s i).map pkT)]) (fun i=>s.cols.length-i) 0 oM ?_ fun i hi=>?_
 ·exact .oA [uI 4096,uI 4100,uI 8204,(1,none)] []
 have hwi:=qh (i:=i+1) oM;have hfl:=qE4 s i;refine sD ?_;refine⟨fun h4=>?_,fun h4=>?_⟩
 ·have sF:=zQ s hs ((i+1:Nat):Int);have hsu:=zV4 s i;refine C1.im sF rF rF ?_;simp only[tZ,↓uU,simprocAttr,hwi];refine⟨⟨hfl,oM⟩,i+1,oM,oM,?_⟩;rw[hsu,By];exact .oA (U4 4096 4100 8204 1) []
 ·have hil:i=s.cols.length-1:=by omega
  subst hil;refine jZ5 [aR 4100 12 [.agg [vS ⟨#[]⟩,vS ⟨#[]⟩,vI 0,vI 0,vI 0,vI 0,vI 0,.v (.slice none 0 0),vI 0,vI 0,vI 0,.v (.slice none 0 0)]],aR 8204 12 [.agg [vS allD.proj,vS allD.src,vI 1,vI 0,vI 0,vI 0,vI 0,.sl 6 [],vI 1,vI 1,vI 0,.sl 17 [qstT allQ]]],aR 1 2 ((yG s (s.cols.length-1)).map pkT)] (jB1 (s':=⟨[(2,.ptr 4100 1 0 0),(4,.ptr 8204 1 0 0),(5,.asl 1 (s.cols.length-1))],[aR 4100 12 [.agg [vS ⟨#[]⟩,vS ⟨#[]⟩,vI 0,vI 0,vI 0,vI 0,vI 0,.v (.slice none 0 0),vI 0,vI 0,vI 0,.v (.slice none 0 0)]],aR 8204 12 [.agg [vS allD.proj,vS allD.src,vI 1,vI 0,vI 0,vI 0,vI 0,.v (.slice none 0 0),vI 1,vI 1,vI 0,.asl 32784 1]],aR 1 2 ((yG s (s.cols.length-1)).map pkT),aR 32784 17 [.agg [vS ⟨#[113]⟩,vI 1,vI 1,vI 0,vI 0,vI 0,vI 0,.sl 6 [],.sl 2 [.agg [vI 1,vI 0]],vI (-1),.sl 1 [],vI 0,vI 0,vI 0,vI 0,vI 0,.sl 6 []]]]⟩) ?_ ?_) ?_
  ·refine .of (U4 4100 8204 1 32784) [32776] rfl (by first | rfl | (rw[hst];rfl)) ?_ ?_
   all_goals (try simp only[tL,simprocAttr,By,List.map_cons,List.map_nil,BW,Cy])
   all_goals (try (repeat' (first | exact qZ | (apply zk;intro _;exact⟨rfl,rfl⟩) | (apply qH;intro _;exact⟨rfl,rfl⟩) | with_reducible apply qV | with_reducible refine qW ⟨rfl,rfl⟩ ?_ | exact zd | with_reducible apply qR | with_reducible refine qY ⟨rfl,rfl,?_⟩ ?_ | with_reducible apply Az | exact qS rfl | exact qS (by assumption) | (refine⟨⟨?_,rfl,?_,rfl,?_⟩,trivial⟩ <;> first | (simp;done) | (apply qH;intro _;exact⟨rfl,rfl⟩)) | trivial | rfl | (rw[qh oM]) | omega)))
   simp only[T.cells,tL,simprocAttr]
   all_goals (try exact clA)
  ·refine .of (U3 4100 8204 1) [32784] rfl (by first | rfl | (rw[hst];rfl)) ?_ ?_
   all_goals (try simp only[tL,simprocAttr,By,List.map_cons,List.map_nil,BW,Cy])
   all_goals (try (repeat' (first | exact qZ | (apply zk;intro _;exact⟨rfl,rfl⟩) | (apply qH;intro _;exact⟨rfl,rfl⟩) | with_reducible apply qV | with_reducible refine qW ⟨rfl,rfl⟩ ?_ | exact zd | with_reducible apply qR | with_reducible refine qY ⟨rfl,rfl,?_⟩ ?_ | with_reducible apply Az | exact qS rfl | exact qS (by assumption) | (refine⟨⟨?_,rfl,?_,rfl,?_⟩,trivial⟩ <;> first | (simp;done) | (apply qH;intro _;exact⟨rfl,rfl⟩)) | trivial | rfl | (rw[qh oM]) | omega)))
   simp only[T.cells,tL,simprocAttr]
   all_goals (try exact clA)
  refine sW ?_;have hq:qstT allQ = .agg [vS ⟨#[113]⟩,vI 1,vI 1,vI 0,vI 0,vI 0,vI 0,.sl 6 [],.sl 2 [.agg [vI 1,vI 0]],vI (-1),.sl 1 [],vI 0,vI 0,vI 0,vI 0,vI 0,.sl 6 []]:=rfl;exact .oA [] [1]
set_option maxHeartbeats 4000000
theorem zP6 {s:Sch} (hE:schE s=0) {c:Nat} (h0:0<c) (hc:c<s.cols.length):0≤finI s c:=by
 have hok:=qU hE;unfold finI;rw[Aq (by rw[hE];simp;omega),Ax];split
 ·rename_i h2;obtain⟨_,d2⟩:=hok.cdl hc h2;unfold zC;rw[Aq (by rw[d2];simp)];omega
 ·omega
theorem zu1 {s:Sch} (hE:schE s=0):∀ p∈yG s (s.cols.length-1),jj s p=0∧p.lev=finI s p.col:=fun p hp=>by
 obtain⟨k,hk,rfl⟩:=Cj.1 hp;rw[Dk] at hk;have:=zP6 hE (c:=k+1) oM oM;refine⟨?_,rfl⟩;unfold jj;dsimp only;rw[Aq (by rw[hE];simp),Aq oM,Aq];rw[zq9];omega
theorem zP7 (s:Sch) (n:Nat):(yG s n).Pairwise fun a b=>a.col<b.col:=by
 unfold yG;refine List.pairwise_map.2 (List.pairwise_lt_range.imp fun h=>?_);dsimp only;omega
theorem ql3 {s:Sch} (hE:schE s=0):kF s (yG s (s.cols.length-1))=0:=by
 have hA:=zP7 s (s.cols.length-1);have hP:=zu1 hE;generalize yG s (s.cols.length-1)=P at hA hP;unfold kF;rw[Aq (by rw[hE];simp)];refine Qr fun i hi=>?_;unfold qC0 pkAt;rw[qg hi,(hP _ (AX hi)).1,Aq sMp,Aq];rintro ⟨h1,h2⟩;rw[qg (show i-1<P.length by omega)] at h2;have:=DX.1 hA (i-1) i oM hi oM;omega
abbrev cAll:Cnd:=.mk 1 0 0 0 0 []
abbrev qT (c:Cnd) (ds:List Pk):Qst:=⟨⟨#[116]⟩,1,c,ds,-1,[],cnd0⟩
theorem zC5 {s:Sch} (hE:schE s=0):chkC s cAll=0:=by
 unfold chkC;rw[Aq (by rw[hE];simp),Aq (by decide),Aq (by decide)]
 rfl
theorem q_ok {s:Sch} (hE:schE s=0) {c:Cnd} (hc:chkC s c=0) {ds:List Pk} (hd:yB s ds=0) (nm:ByteArray) (hn:js nm=true):qstE s ⟨nm,1,c,ds,-1,[],cnd0⟩=0:=by
 unfold qstE qn5;dsimp only;rw[Aq (by rw[hE];simp),Aq (by rw[hn];simp),Aq oM,Aq (by rw[hc];simp),Aj rfl,Aq (by rw[hd];simp),Aq (by rw[show qk0 cnd0 cnd0=true by kernel_rfl];simp)]
theorem jB2 {s:Sch} (hE:schE s=0) {a:List Pk} (h:∀ p∈a,jj s p=0):covB a (yG s (s.cols.length-1))=true:=by
 unfold covB;rw[Bk];intro p hp;have:=jC (h p hp);rw[DJ];refine⟨⟨p.col,finI s p.col⟩,Cj.2 ⟨p.col.toNat-1,Dk.2 oM,?_⟩,?_⟩
 ·rw[show ((p.col.toNat-1+1:Nat):Int)=p.col by omega]
 ·simp only[beq_self_eq_true,Fq,AZ];omega
theorem zC6 {s:Sch} (h:DrS s):dclE s allD=0:=by
 have hE:=h.ok;have hq:qstE s allQ=0:=q_ok hE (zC5 hE) (ds:=[⟨1,0⟩]) (by
  obtain⟨k1,k2⟩:=h.code;have hb:isB s 1 2=true:=by
   obtain⟨ms,hc,h1,h3⟩:=h.cs;rw[zz];rcases hc with⟨hc,hm⟩ | ⟨hc,hm⟩
   ·refine⟨oM,by rw[hc];simp;omega,by rw[qj,hc];rfl⟩
   ·refine⟨oM,by rw[hc];simp;omega,by rw[qj,hc];rfl⟩
  have hb2:=zz.1 hb;have hf:0≤finI s 1:=zP6 hE (c:=1) oM oM;have hp:jj s ⟨1,0⟩=0:=by
   unfold jj;dsimp only;rw[Aq (by rw[hE];simp),Aq oM,Aq];rw[zq9];omega
  unfold yB;rw[Aq sMp];refine Qr fun i hi=>?_;have:i=0:=by simp at hi;exact hi
  subst this;unfold dimE pkAt;simp only[List.getD_cons_zero,hp,hb];simp) ⟨#[113]⟩ kR
 unfold dclE;rw[Aq (by rw[hE];simp),Aq (by rw[show js allD.proj=true by kernel_rfl,show js allD.src=true by kernel_rfl];simp),Aq (by rw[show chkC s allD.coh=0 from zC5 hE];simp),Aq (by decide),Aq (by decide)];refine Qr fun i hi=>?_;have:i=0:=by simp [allD] at hi;exact hi
 subst this;unfold qsE;rw[show qAt allD.qs 0=allQ from rfl,hq];simp
theorem jB3 {x:Src} (hX:DrX x) {k:Int} (hk:0≤k∧k<1152921504606846976):buildE x allD (yG x.sch (x.sch.cols.length-1)) k=0:=by
 have hE:=hX.sch.ok;have hd:=zC6 hX.sch;unfold buildE zq8;rw[qD1.2 hX.ok,hd,ql3 hE];have hs:∀ i,i<allD.qs.length→sufB x.sch (qAt allD.qs i) (yG x.sch (x.sch.cols.length-1))=true:=fun i hi=>by
  obtain⟨_,_,_,_,_,_,_,hq⟩:=jm7 hd;have:=hq i hi;unfold sufB;rw[this,ql3 hE,jB2 hE (qe7 (zB9 this)).2.1]
  rfl
 rw[Qr fun i hi=>by rw[Aj (hs i hi)]];simp;omega
theorem jp7 {x:Src} (hX:DrX x):ownR x allD=x.rows:=by
 have hE:=hX.sch.ok;unfold ownR;rw[Aq (by rw[qD1.2 hX.ok,zC6 hX.sch];simp),List.filter_eq_self];intro r hr;have hrow:=hX.ok.rows r hr;have hin:=jz4 hrow;unfold ownP;rw[Bq,AY];refine⟨?_,?_⟩
 ·unfold zb9;rw[Aq (by rw[show chkC x.sch allD.coh=0 from zC5 hE,hrow];simp)]
  rfl
 ·unfold inS;have e1:(drwI allD.smp.seed (hd r)).tmod allD.smp.of<allD.smp.part:=by
   show (drwI _ (hd r)).tmod 1<1;rw[Int.tmod_one];decide
  rw[Cx e1,Cx (show 1≤hd r by omega),Cx (show hd r≤1048575 by omega)]
  rfl
theorem zV6 {x:Src} (hX:DrX x) {k:Int} (hk:0≤k∧k<1152921504606846976) (P:List Pk):(qf0 x allD P k).Perm (x.rows.map (rowX x P k)):=by
 have h:=hX.ok;have hd0:=zC6 hX.sch;have hpw:=jJ4 (d:=allD) h hk;obtain⟨q1,_,_⟩:=jp5 x P k (ownR x allD) [] List.Pairwise.nil sMp;have hnd1:((ownR x allD).map (rowX x P k)).Nodup:=by
  refine List.pairwise_map.2 (hpw.imp fun {a b} h e=>h ?_);have:=congrArg hd e;exact this
 have hnd2:(qf0 x allD P k).Nodup:=q1.imp fun {a b} h e=>by rw[e] at h;omega
 rw[← jp7 hX];refine (List.perm_ext_iff_of_nodup hnd2 hnd1).2 fun r=>?_;rw[zV0 h hd0 hk,Cj];constructor
 ·rintro ⟨r0,a,b,rfl⟩;exact⟨r0,(ze3 h hd0 r0).2 ⟨a,b⟩,rfl⟩
 ·rintro ⟨r0,a,rfl⟩;obtain⟨b,c⟩:=(ze3 h hd0 r0).1 a;exact⟨r0,b,c,rfl⟩
def wtbE (s:Sch) (t:Tbl) (n:Int):Int:=
 if spcE s≠0 then spcE s else if qf4 s t.dims=false then 23
 else if ((List.range (tabN s t)).any fun k=>decide (tabK s t k<0))=true then 21
 else if n<0∨n≥24∨((List.range (tabN s t)).any fun k=>!okV (tabV s t k))=true then 2 else 0
def wtbR (s:Sch) (t:Tbl) (n:Int):Rls:=if wtbE s t n≠0 then ⟨0,[],[]⟩ else ⟨n,tabG s t.dims,(List.range (tabN s t)).map (tabV s t)⟩
abbrev wX (x:Src) (k:Int):Ext:=⟨allD.proj,x.ver,yG x.sch (x.sch.cols.length-1),qf0 x allD (yG x.sch (x.sch.cols.length-1)) k⟩
set_option maxHeartbeats 8000000
abbrev spT (sz:List Int):T:=.agg [vIs sz]
abbrev vvIs (gs:List (List Int)):T:=.sl 1 (gs.map vIs)
abbrev vwT (gs:List (List Int)):T:=.agg [vvIs gs]
theorem qE5 {p:Int→Bool} {l:List Int} {i:Nat} (h:i<l.length):(l.take (i+1)).all p=((l.take i).all p&&p l[i]):=by
 rw[qz h,FK];simp
theorem jp8 {p:Int→Bool} {l:List Int} {i:Nat} (h:i<l.length) (hp:p l[i]=false):l.all p=false:=by
 rw[List.all_eq_false];exact⟨l[i],AX h,by simp [hp]⟩
theorem qE6 {l:List Int} {i:Nat} (h:i<l.length) (ha:(l.take i).all szOk=true) (hl:l.length≤4) (hk:1≤l[i]∧l[i]≤8):IntKind.i64.wrap (zq (l.take i)*l[i])=zq (l.take (i+1)):=by
 have hs:szOk l[i]=true:=by simpa [szOk] using hk
 obtain⟨h1,h2⟩:=Wq (l:=l.take (i+1)) (by rw[qE5 h,ha,hs];rfl) (by rw[Cz];omega);rw[← zp5 h,AK _ oM]
theorem JX (sz:List Int) (hl:sz.length<4611686018427387904):Sp 46 [spT sz] [] (vI (chkS sz)) []:=by
 refine sIr qH3 fun e _ hst=>?_;unfold QW;refine sD ?_;refine⟨fun h=>?_,fun h=>?_⟩
 ·have:chkS sz=55:=by
   unfold chkS;rw[Aj oM]
  rw[this];exact .imR rfl rfl
 have hlen:1≤sz.length∧sz.length≤4:=by omega
 refine qk mixm (α:=Nat) [3,19] (fun i=>i≤sz.length∧((sz.take i).all szOk=true)) (fun i=>[(3,vI (zq (sz.take i))),(19,vI i)]) (fun i=>[]) (fun i=>sz.length-i) 0 ⟨oM,?_⟩ ?_ fun i hi=>?_
 ·rfl
 ·exact .oA [] []
 simp only[tZ,↓uU,simprocAttr,AZ,Ay];refine⟨fun h=>?_,fun h=>?_⟩
 ·have hi2:i<sz.length:=by omega
  have hwi:=qh (i:=i) oM;simp only[tZ,↓uU,simprocAttr,Ax,qd hi2,hwi,tD];refine⟨oM,fun h3=>?_,fun h3=>?_⟩
  ·have hf:sz.all szOk=false:=jp8 hi2 (by simp only[szOk,FJ,Ay];omega);have:chkS sz=55:=by
    unfold chkS;rw[Aq oM,Aj hf]
   rw[this];exact .imR rfl rfl
  ·have hk:1≤sz[i]∧sz[i]≤8:=by omega
   rw[qE6 hi2 hi.2 hlen.2 hk];refine⟨i+1,⟨oM,?_⟩,oM,?_⟩
   ·rw[qE5 hi2,hi.2];simp only[szOk,Fq,Bq,AZ];exact hk
   ·exact .oA [] []
 ·have hi2:i=sz.length:=by omega
  subst hi2;have ha:=hi.2;rw[Bw] at ha ⊢
  refine⟨fun h3=>?_,fun h3=>?_⟩
  ·have:chkS sz=55:=by
    unfold chkS;rw[Aq oM,Aq (by rw[ha];simp),Aj oM]
   rw[this];exact .imR rfl rfl
  ·have:chkS sz=0:=by
    unfold chkS;rw[Aq oM,Aq (by rw[ha];simp),Aq oM]
   rw[this];exact .imR rfl rfl
theorem ze9 (sz:List Int) (hl:sz.length<4611686018427387904):Sp 49 [spT sz] [] (vI (chkS sz)) []:=by
 refine sIr qH7 fun e _ hst=>?_;unfold QY;refine sD ?_;refine⟨fun h=>?_,fun h=>?_⟩
 ·have:chkS sz=55:=by
   unfold chkS;rw[Aj oM]
  rw[this];exact .imR rfl rfl
 have hlen:1≤sz.length∧sz.length≤4:=by omega
 refine qk mixm (α:=Nat) [3,19] (fun i=>i≤sz.length∧((sz.take i).all szOk=true)) (fun i=>[(3,vI (zq (sz.take i))),(19,vI i)]) (fun i=>[]) (fun i=>sz.length-i) 0 ⟨oM,?_⟩ ?_ fun i hi=>?_
 ·rfl
 ·exact .oA [] []
 simp only[tZ,↓uU,simprocAttr,AZ,Ay];refine⟨fun h=>?_,fun h=>?_⟩
 ·have hi2:i<sz.length:=by omega
  have hwi:=qh (i:=i) oM;simp only[tZ,↓uU,simprocAttr,Ax,qd hi2,hwi,tD];refine⟨oM,fun h3=>?_,fun h3=>?_⟩
  ·have hf:sz.all szOk=false:=jp8 hi2 (by simp only[szOk,FJ,Ay];omega);have:chkS sz=55:=by
    unfold chkS;rw[Aq oM,Aj hf]
   rw[this];exact .imR rfl rfl
  ·have hk:1≤sz[i]∧sz[i]≤8:=by omega
   rw[qE6 hi2 hi.2 hlen.2 hk];refine⟨i+1,⟨oM,?_⟩,oM,?_⟩
   ·rw[qE5 hi2,hi.2];simp only[szOk,Fq,Bq,AZ];exact hk
   ·exact .oA [] []
 ·have hi2:i=sz.length:=by omega
  subst hi2;have ha:=hi.2;rw[Bw] at ha ⊢
  refine⟨fun h3=>?_,fun h3=>?_⟩
  ·have:chkS sz=55:=by
    unfold chkS;rw[Aq oM,Aq (by rw[ha];simp),Aj oM]
   rw[this];exact .imR rfl rfl
  ·have:chkS sz=0:=by
    unfold chkS;rw[Aq oM,Aq (by rw[ha];simp),Aq oM]
   rw[this];exact .imR rfl rfl
def maxF (l:List Int):Int:=(l.drop 1).foldl maxI (l.getD 0 0)
theorem zP8 {l:List Int} {i:Nat} (h:i<l.length) (h0:0<i):maxF (l.take (i+1))=maxI (maxF (l.take i)) l[i]:=by
 unfold maxF;rw[qz h,List.drop_append_of_le_length (by rw[Cz];omega),Gx];have:∀ r:List Int,(l.take i++r).getD 0 0=(l.take i).getD 0 0:=fun r=>by
  rw[CY,CY,BK (by rw[Cz];omega)]
 rw[this]
 rfl
theorem Ja (l:List Int) (h0:0<l.length) (hl:l.length<4611686018427387904):Sp 106 [vIs l] [] (vI (maxF l)) []:=by
 refine sIr ZT fun e _ hst=>?_;unfold jL;refine sD ?_;refine⟨fun h=>absurd h oM,fun _=>?_⟩;have e0:=qd (f:=vI) h0;simp only[e0];refine sW ?_;refine⟨oM,?_⟩;refine qk mixm (α:=Nat) [3,4] (fun i=>1≤i∧i≤l.length) (fun i=>[(3,vI (maxF (l.take i))),(4,vI i)]) (fun _=>[]) (fun i=>l.length-i) 1 ⟨oM,oM⟩ ?_ fun i hi=>?_
 ·have:maxF (l.take 1)=l[0]:=by
   obtain⟨x,r,rfl⟩:∃ x r,l=x::r:=by
    cases l with
    | nil=>simp at h0
    | cons x r=>exact⟨x,r,rfl⟩
   rfl
  rw[this];exact .oA [] []
 simp only[tZ,↓uU,simprocAttr,AZ,Ay];refine⟨fun h=>?_,fun h=>?_⟩
 ·have hi2:i<l.length:=by omega
  have hwi:=qh (i:=i) oM;simp only[tZ,↓uU,simprocAttr,Ax,qd hi2,hwi];refine⟨oM,i+1,oM,oM,?_⟩;rw[zP8 hi2 oM];exact .oA [] []
 ·have hi2:i=l.length:=by omega
  subst hi2;rw[Bw];exact .imR rfl rfl
theorem jY1:∀ {l:List Int},0<l.length→gN l=maxI 0 (1+maxF l):=by
 intro l h;have key:∀ i,1≤i→i≤l.length→gN (l.take i)=maxI 0 (1+maxF (l.take i)):=by
  intro i
  induction i with
  | zero=>intro h;omega
  | succ i ih=>
    intro _ h2;by_cases h1:i=0
    ·subst h1;obtain⟨x,r,rfl⟩:∃ x r,l=x::r:=by
      cases l with
      | nil=>simp at h
      | cons x r=>exact⟨x,r,rfl⟩
     show jN2 0 x=maxI 0 (1+x);unfold jN2;rw[Int.add_comm]
    ·rw[jl0 oM,ih oM oM,zP8 oM oM];unfold maxI;split <;> split <;> (try split) <;> (try split) <;> omega
 have:=key l.length h (BZ _)
 rwa [Bw] at this
theorem Qw (l:List Int) (ha:l.all szOk=true) (hl:l.length≤4):Sp 104 [vIs l] [] (vI (zq l)) []:=by
 refine sIr qp2 fun e _ hst=>?_;unfold yb;refine sW ?_;refine qk mixm (α:=Nat) [3,8] (fun i=>i≤l.length) (fun i=>[(3,vI (zq (l.take i))),(8,vI i)]) (fun i=>[]) (fun i=>l.length-i) 0 oM ?_ fun i hi=>?_
 ·exact .oA [] []
 simp only[tZ,↓uU,simprocAttr,AZ,Ay];refine⟨fun h=>?_,fun h=>?_⟩
 ·have hi2:i<l.length:=by omega
  have hwi:=qh (i:=i) oM;simp only[tZ,↓uU,simprocAttr,Ax,qd hi2,hwi];have hk:1≤l[i]∧l[i]≤8:=by simpa [szOk] using Bk.1 ha l[i] (AX hi2)
  have hat:(l.take i).all szOk=true:=Bk.2 fun x hx=>Bk.1 ha x (EX hx);rw[qE6 hi2 hat hl hk];refine⟨oM,i+1,oM,oM,?_⟩;exact .oA [] []
 ·have hi2:i=l.length:=by omega
  subst hi2;rw[Bw];exact .imR rfl rfl
theorem QL (s:Sch) (hok:SchOk s) (i:Nat) (hi:i<s.cols.length) (h2:(qj s i).kind=2):Sp 45 [schT s,vI i] [] (vIs (qJ s i)) []:=by
 have hat:qj s i=s.cols[i]:=by rw[qj,qg hi]
 obtain⟨d1,d2⟩:=hok.cdl hi h2;obtain⟨d3,d4⟩:=(zi (hok.cs i hi)).2.2.2.1 h2;have hcl:qQ s i=s.lists.getD s.cols[i].list.toNat default:=by rw[qQ,hat]
 rw[hcl] at d2;rw[hat] at d1 d3 d4;have hgl:s.lists.getD s.cols[i].list.toNat default=s.lists[s.cols[i].list.toNat]:=qg d1;rw[hgl] at d2;obtain⟨_,d5,d6⟩:=ze d2;rw[qJ,hcl,hgl];have hlv:=YR (l:=s.lists[s.cols[i].list.toNat]);have hw2:IntKind.i64.wrap (zC s.lists[s.cols[i].list.toNat]-1)=zC s.lists[s.cols[i].list.toNat]-1:=AK _ oM;refine sIr Yx fun e _ hst=>?_;unfold kp;simp only[tZ,↓uU,simprocAttr,Ax,qd hi,qd d1];refine⟨oM,oM,kR,?_⟩;refine C1.im (Ya _) rF rF ?_;simp only[tZ,↓uU,simprocAttr,hw2];refine C1.im (zU4 _ _) rF rF ?_;refine sW ?_;refine⟨kR,?_⟩;exact .oA [] []
theorem ZL (s:Sch) (hok:SchOk s) (i:Nat) (hi:i<s.cols.length) (h2:(qj s i).kind=2):Sp 48 [schT s,vI i] [] (vIs (qJ s i)) []:=by
 have hat:qj s i=s.cols[i]:=by rw[qj,qg hi]
 obtain⟨d1,d2⟩:=hok.cdl hi h2;obtain⟨d3,d4⟩:=(zi (hok.cs i hi)).2.2.2.1 h2;have hcl:qQ s i=s.lists.getD s.cols[i].list.toNat default:=by rw[qQ,hat]
 rw[hcl] at d2;rw[hat] at d1 d3 d4;have hgl:s.lists.getD s.cols[i].list.toNat default=s.lists[s.cols[i].list.toNat]:=qg d1;rw[hgl] at d2;obtain⟨_,d5,d6⟩:=ze d2;rw[qJ,hcl,hgl];have hlv:=YR (l:=s.lists[s.cols[i].list.toNat]);have hw2:IntKind.i64.wrap (zC s.lists[s.cols[i].list.toNat]-1)=zC s.lists[s.cols[i].list.toNat]-1:=AK _ oM;refine sIr qy0 fun e _ hst=>?_;unfold yW;simp only[tZ,↓uU,simprocAttr,Ax,qd hi,qd d1];refine⟨oM,oM,kR,?_⟩;refine C1.im (jY _ oM) rF rF ?_;simp only[tZ,↓uU,simprocAttr,hw2];refine C1.im (Wt _ _ oM) rF rF ?_;refine sW ?_;refine⟨kR,?_⟩;exact .oA [] []
theorem ql4 (c:TCl) (codes:List Int) (hl:c.codes.length<4611686018427387904):Sp 108 [tclT c,.ip [vIs codes]] [] (vB (ZH c.codes codes)) []:=by
 have sE:=qf2 c.codes codes hl;refine sIr qd3 fun e _ hst=>?_;unfold kV;refine sW ?_;refine C1.im sE rF rF ?_;refine sW ?_;exact .oA [] []
end Go.Proofs
