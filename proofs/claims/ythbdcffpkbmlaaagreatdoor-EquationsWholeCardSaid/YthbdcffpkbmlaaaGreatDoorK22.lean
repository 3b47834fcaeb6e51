/- A part of the proof: trees of Go values, short forms, contracts. -/
import Derived.Test.YthbdcffpkbmlaaaGreatDoorK21
namespace Go.Proofs
open Go Go.TL
set_option maxRecDepth 4000
set_option maxHeartbeats 8000000
def blkR (c:Col) (lev v:Int):Int×Int×Bool:=
 if lev=0 then (c.low,c.high,v==0)
 else if v=qW∨inB v (-2000000) 2000000=false∨v.tmod (qJ c lev)≠0 then (0,0,false)
 else (max c.low v,min c.high (v+qJ c lev-1),decide (max c.low v≤min c.high (v+qJ c lev-1)))
theorem JN (c:Col) (lev v:Int) (hl:lev=0∨(1≤lev∧lev≤c.widths.length∧c.widths.length≤4∧1≤qJ c lev∧qJ c lev≤1000000)):Sp 132 [colT c,vI lev,vI v] [] (.tup [vI (blkR c lev v).1,vI (blkR c lev v).2.1,vB (blkR c lev v).2.2]) []:=by
 refine sIr qI8 fun e _ hst=>?_;unfold Zo;simp only[tZ,↓uU,simprocAttr,AY,Ak];refine⟨fun h=>?_,fun h=>?_⟩
 ·rw[blkR,Aj h];refine⟨kR,?_⟩;exact .oA [] []
 obtain⟨l1,l2,l3,l4,l5⟩:=hl.resolve_left h;rw[blkR,Aq h];refine C1.im (wa c lev ⟨l1,l2⟩ oM) rF rF ?_;generalize qJ c lev=w at l4 l5 ⊢
 refine sW ?_;refine C2.im (fun _=>zF v (-2000000) 2000000) (fun _=>rfl) rF ?_;have hm:qW = -1099511627776:=rfl;have hw1:IntKind.i64.wrap (v.tmod w)=v.tmod w:=AK _ (by have:=Int.tmod_lt_of_pos v (show 0<w by omega);have:=Int.lt_tmod_of_pos v (show 0<w by omega);omega);simp only[tZ,↓uU,simprocAttr,hw1];have hC:(v=qW∨inB v (-2000000) 2000000=false∨v.tmod w≠0)↔((v == -1099511627776||!inB v (-2000000) 2000000||v.tmod w != 0)=true):=by
  rw[DZ,DZ,AY,Bx,Bj,or_assoc];rfl
 refine⟨fun _=>by omega,fun h2=>?_,fun h2=>?_⟩
 ·rw[Aj (hC.2 h2)];exact .oA [] []
 ·have hn:¬ (v=qW∨inB v (-2000000) 2000000=false∨v.tmod w≠0):=fun k=>by rw[hC.1 k] at h2;cases h2
  rw[Aq hn];have hb:inB v (-2000000) 2000000=true:=by
   cases e:inB v (-2000000) 2000000 with
   | true=>rfl
   | false=>exact absurd (.inr (.inl e)) hn
  rw[zP] at hb;have hw2:IntKind.i64.wrap (v+w)=v+w:=AK _ oM;have hw3:IntKind.i64.wrap (v+w-1)=v+w-1:=AK _ oM;refine⟨kR,?_⟩;simp only[tZ,↓uU,simprocAttr,hw2,hw3,jU7,jU8];exact .oA [] []
def canR (s:Sch) (c lev v:Int):Bool:=
 if inB lev 0 (finI s c)=false then false
 else if (qj s c.toNat).kind=2 then (qA s c.toNat).any fun x=>qk s c lev x==v
 else if lev>0∧v=qW then (qj s c.toNat).opt else (blkR (qj s c.toNat) lev v).2.2
theorem YT (s:Sch) (hs:jY s) (c lev v:Int):Sp 77 [schT s,vI c,vI lev,vI v] [] (vB (canR s c lev v)) []:=by
 refine sIr zm4 fun e _ hst=>?_;unfold KB;refine sW ?_;refine C1.im (zM s hs c) rF rF ?_;refine sW ?_;refine C1.im (zF lev 0 (finI s c)) rF rF ?_;simp only[tZ,↓uU,simprocAttr,Bx,Bz];refine⟨fun h=>?_,fun h=>?_⟩
 ·rw[canR,Aj h];exact .oA [] []
 have hin:=zP.1 h;obtain⟨hE,c1,c2,hfin⟩:=kz (s:=s) (c:=c) oM;obtain⟨i,rfl⟩:=AJ (show 0≤c by omega);have hil:i<s.cols.length:=by omega
 have hok:=qO hE;have hR:canR s i lev v=if (qj s i).kind=2 then (qA s i).any fun x=>qk s i lev x==v else if lev>0∧v=qW then (qj s i).opt else (blkR (qj s i) lev v).2.2:=by
  rw[canR,Aq (by rw[h];simp),Ax]
 have hat:qj s i=s.cols[i]:=by rw[qj,qg hil]
 have hLf:=fun h2=>jv s hok i hil h2;have hLl:=fun h2=>jM hok hil h2;have hw:=fun h2 l=>hok.wid hil oM h2 (lev:=l);rw[hR];rw[Ax] at hfin;rw[hat] at hLf hLl hw hfin ⊢
 generalize finI s i=F at hin hfin;simp only[tZ,↓uU,simprocAttr,Ax,qd hil,AY,Ak];generalize s.cols[i]=x at hLf hLl hw hfin ⊢
 refine⟨oM,fun h2=>?_,fun h2=>?_⟩
 ·rw[Aj h2];have hLl:=hLl h2;refine C1.im (hLf h2) rF rF ?_;generalize qA s i=L at hLl ⊢
  refine sW ?_;refine qt mixm (α:=Nat) [11] (fun n=>n≤L.length∧((L.take n).any fun x=>qk s i lev x==v)=false) (fun n=>[(11,vI n)]) (fun n=>[aR 4096 2 [schT s]]) (fun n=>L.length-n) 0 ⟨oM,rfl⟩ ?_ fun n hn=>?_
  ·exact .oA (U1 4096) []
  refine sD ?_;refine⟨fun h5=>?_,fun h5=>?_⟩
  ·have hn2:n<L.length:=by omega
   have hwn:=qh (i:=n) oM;have hC:=zk s hs i lev L[n];simp only[tZ,↓uU,simprocAttr,Ax,qd hn2];refine⟨oM,?_⟩;refine C1.im hC rF rF ?_;simp only[tZ,↓uU,simprocAttr,hwn];refine⟨kR,fun h6=>?_,fun h6=>?_⟩
   ·rw[ql9 hn2 h6];exact .oA [] []
   ·refine⟨n+1,⟨oM,zV hn2 hn.2 h6⟩,oM,?_⟩;exact .oA (U1 4096) []
  ·have hnl:n=L.length:=by omega
   subst hnl;have hn2:=hn.2;rw[Bw] at hn2;rw[hn2];exact .oA [] []
 ·rw[Aq h2];rw[Aq h2] at hfin;have hB:=JN x lev v (by
   rcases Int.lt_or_le 0 lev with k | k
   ·right
    obtain⟨w1,w2,_,w4,_⟩:=hw h2 lev oM;exact⟨oM,oM,w4,w1,w2⟩
   ·left;omega)
  simp only[tZ,↓uU,simprocAttr,tD,AY,Ak,gt_iff_lt];refine⟨fun h5=>?_,fun h5=>?_⟩
  ·rw[Aj (show 0<lev∧v=qW from h5)];exact .oA [] []
  ·rw[Aq (show ¬ (0<lev∧v=qW) from fun k=>by
    have:qW = -1099511627776:=rfl;omega)]
   refine C1.im hB rF rF ?_;refine sW ?_
   repeat (first | refine⟨oM,?_⟩ | refine⟨kR,?_⟩)
   exact .oA [] []
def zs8 (s:Sch) (i:Nat) (lev v:Int):Int:=
 if (qj s i).kind=2 then ((qA s i).find? fun x=>qk s i lev x==v).getD (-1)
 else if lev>0∧v=qW then v else (blkR (qj s i) lev v).1
theorem zs9 (s:Sch) (hE:schE s=0) (i:Nat) (hi:i<s.cols.length) (h0:0<i) (lev v:Int) (hl:0≤lev∧lev≤finI s i):Sp 170 [schT s,vI i,vI lev,vI v] [] (vI (zs8 s i lev v)) []:=by
 have hok:=qO hE;have hs:=hok.sm;have hat:qj s i=s.cols[i]:=by rw[qj,qg hi]
 have hR:zs8 s i lev v=if (qj s i).kind=2 then ((qA s i).find? fun x=>qk s i lev x==v).getD (-1) else if lev>0∧v=qW then v else (blkR (qj s i) lev v).1:=rfl
 have hLf:=fun h2=>jv s hok i hi h2;have hLl:=fun h2=>jM hok hi h2;have hw:=fun h2 l=>hok.wid hi h0 h2 (lev:=l);have hfin:finI s i=if (qj s i).kind=2 then zA (qK s i)-1 else (qj s i).widths.length:=by rw[finI,Aq (by rw[hE];omega),Ax]
 rw[hR];rw[hat] at hLf hLl hw hfin ⊢
 generalize finI s i=F at hl hfin;refine sIr qY6 fun e _ hst=>?_;unfold JD;simp only[tZ,↓uU,simprocAttr,Ax,qd hi,AY,Ak];generalize s.cols[i]=x at hLf hLl hw hfin ⊢
 refine⟨oM,fun h2=>?_,fun h2=>?_⟩
 ·rw[Aj h2];have hLl:=hLl h2;refine C1.im (hLf h2) rF rF ?_;generalize qA s i=L at hLl ⊢
  refine sW ?_;refine qt mixm (α:=Nat) [11] (fun n=>n≤L.length∧((L.take n).any fun x=>qk s i lev x==v)=false) (fun n=>[(11,vI n)]) (fun n=>[aR 4096 2 [schT s]]) (fun n=>L.length-n) 0 ⟨oM,rfl⟩ ?_ fun n hn=>?_
  ·exact .oA (U1 4096) []
  refine sD ?_;refine⟨fun h5=>?_,fun h5=>?_⟩
  ·have hn2:n<L.length:=by omega
   have hwn:=qh (i:=n) oM;have hC:=zk s hs i lev L[n];simp only[tZ,↓uU,simprocAttr,Ax,qd hn2];refine⟨oM,?_⟩;refine C1.im hC rF rF ?_;simp only[tZ,↓uU,simprocAttr,hwn,Ax,qd hn2];refine⟨kR,fun h6=>?_,fun h6=>?_⟩
   ·rw[jw0 (p:=fun x=>qk s i lev x==v) hn2 hn.2 h6,Option.getD_some]
    repeat (first | refine⟨oM,?_⟩ | refine⟨kR,?_⟩)
    exact .oA [] []
   ·refine⟨n+1,⟨oM,zV hn2 hn.2 h6⟩,oM,?_⟩;exact .oA (U1 4096) []
  ·have hnl:n=L.length:=by omega
   subst hnl;have hn2:=hn.2;rw[Bw] at hn2;rw[qP5 hn2];exact .oA [] []
 ·rw[Aq h2];rw[Aq h2] at hfin;have hB:=JN x lev v (by
   rcases Int.lt_or_le 0 lev with k | k
   ·right
    obtain⟨w1,w2,_,w4,_⟩:=hw h2 lev oM;exact⟨oM,oM,w4,w1,w2⟩
   ·left;omega)
  simp only[tZ,↓uU,simprocAttr,tD,AY,Ak,gt_iff_lt];refine⟨fun h5=>?_,fun h5=>?_⟩
  ·rw[Aj (show 0<lev∧v=qW from h5)];exact .oA [] []
  ·rw[Aq (show ¬ (0<lev∧v=qW) from fun k=>by
    have:qW = -1099511627776:=rfl;omega)]
   refine C1.im hB rF rF ?_;refine sW ?_
   repeat (first | refine⟨oM,?_⟩ | refine⟨kR,?_⟩)
   exact .oA [] []
open So
theorem jo3 {s:Sch} (hE:schE s=0) {i:Nat} (hi:i<s.cols.length) (h0:0<i) (h2:(qj s i).kind=2) {o lev:Nat} (ho:(o:Int)≤finI s i) (hl:(lev:Int)≤finI s i) {v:Int} (hv:qS s i v=true)
 (hd:∀ a b,qS s i a=true→qS s i b=true→qk s i o a=qk s i o b→qk s i lev a=qk s i lev b) :
 qf0 (qA s i) (fun x=>upC (qK s i) x o) (fun x=>upC (qK s i) x lev) (qk s i o v)=(qk s i lev v,true):=by
 have hok:=qO hE;have hco:∀ (l:Nat),(l:Int)≤finI s i→∀ y∈qA s i,upC (qK s i) y l=qk s i l y:=fun l hl y hy=>by
  have h3:=(zU hok hi h2).2 hy;rw[qk,Aq (by rw[Ez,zP];omega),Ax,Aj h2,Aq (by rw[h3];simp)]
 have hm:=(zU hok hi h2).1 hv;unfold qf0;cases hf:(qA s i).filter fun x=>upC (qK s i) x o==qk s i o v with
 | nil=>
   have:=List.filter_eq_nil_iff.1 hf v hm;rw[hco o ho v hm] at this;simp at this
 | cons y r=>
   have hall:∀ z,z∈y::r→upC (qK s i) z lev=qk s i lev v:=fun z hz=>by
    rw[← hf] at hz;obtain⟨z1,z2⟩:=Fz.1 hz;rw[hco o ho z z1,AY] at z2;rw[hco lev hl z z1];exact hd z v ((zU hok hi h2).2 z1) hv z2
   dsimp only;rw[Aj,hall y sMp];rw[Bk];intro z hz;rw[hall z (CQ _ hz),hall y sMp];exact beq_self_eq_true _
theorem zt0 {s:Sch} (hE:schE s=0) {i:Nat} (hi:i<s.cols.length) (h0:0<i) (h2:(qj s i).kind≠2) {o lev:Nat} (ho:(o:Int)≤finI s i) (hl:(lev:Int)≤finI s i) {v:Int} (hv:qS s i v=true)
 (hd:∀ a b,qS s i a=true→qS s i b=true→qk s i o a=qk s i o b→qk s i lev a=qk s i lev b) :
 Qv (qj s i) o (qk s i o v) lev=(qk s i lev v,true):=by
 have hM:=wJ hE hi h0 h2;have hmi:qW = -1099511627776:=rfl;have hlh:=hM.lh;have hC:=fun (l:Nat) (hl:(l:Int)≤finI s i) (v:Int) (hv:qS s i v=true)=>YO hM hl hv;have hH:=fun v=>wc (s:=s) (i:=i) hM.kind (v:=v);have hfo:=hM.fin;by_cases hmv:v=qW
 ·subst hmv;have hopt:(qj s i).opt=true:=by
   rcases (hH qW).1 hv with k | k
   ·exact k.1
   ·omega
  by_cases o0:o=0
  ·subst o0;have hlo:qS s i (qj s i).low=true:=(hH _).2 (.inr ⟨oM,oM⟩);have h3:=hd _ _ hv hlo (by rw[hC 0 oM _ hv,hC 0 oM _ hlo,Aj rfl,Aj rfl]);have l0:lev=0:=by
    refine AQ fun k=>?_;rw[hC lev hl _ hv,hC lev hl _ hlo,Aq k,Aq k,Aj rfl,Aq oM] at h3;exact jn3 (hM.wid lev oM oM) (qR8 hE hi h0 h2 oM oM) oM h3.symm
   subst l0;rw[hC 0 oM _ hv,Aj rfl,Qv,Aq oM,kF,Aj (show ((0:Nat):Int)=0 from rfl)]
   rfl
  ·rw[hC o ho _ hv,Aq o0,Aj rfl,Qv,Aj ⟨oM,rfl⟩,hopt,hC lev hl _ hv];by_cases l0:lev=0
   ·rw[Aj oM,Aj l0]
   ·rw[Aq oM,Aq l0,Aj rfl]
 have hvr:(qj s i).low≤v∧v≤(qj s i).high:=by
  rcases (hH v).1 hv with k | k
  ·exact absurd k.2 hmv
  ·exact k
 have key:∃ a b,kF (qj s i) o (qk s i o v)=(a,b,true)∧qS s i a=true∧qS s i b=true∧a≠qW∧b≠qW∧qk s i o a=qk s i o v∧qk s i o b=qk s i o v∧¬ (0<(o:Int)∧qk s i o v=qW):=by
  by_cases o0:o=0
  ·subst o0;have e:∀ x,qS s i x=true→qk s i (0:Nat) x=0:=fun x hx=>by rw[hC 0 oM _ hx,Aj rfl]
   have ha:qS s i (qj s i).low=true:=(hH _).2 (.inr ⟨oM,oM⟩);have hb:qS s i (qj s i).high=true:=(hH _).2 (.inr ⟨oM,oM⟩);refine⟨(qj s i).low,(qj s i).high,?_,ha,hb,oM,oM,by rw[e _ ha,e _ hv],by rw[e _ hb,e _ hv],oM⟩;rw[e v hv,kF,Aj (show ((0:Nat):Int)=0 from rfl)];rfl
  ·have w1:=hM.wid o oM oM;have w2:=qR8 hE hi h0 h2 (l:=o) oM oM;have e:∀ x,qS s i x=true→x≠qW→qk s i o x=qU x (qJ (qj s i) o)*qJ (qj s i) o:=fun x hx hn=>by rw[hC o ho _ hx,Aq o0,Aq hn]
   have hev:=e v hv hmv;rw[hev];generalize hw:qJ (qj s i) o=w at w1 w2 e hev;have hfl:=ZO (v:=v) (w:=w) oM;have hself:qU (qU v w*w) w*w=qU v w*w:=zA4 oM ⟨qU v w,Int.mul_comm _ _⟩;have hblk:∀ x,qU v w*w≤x→x<qU v w*w+w→qU x w*w=qU v w*w:=fun x x1 x2=>by
    rw[qe9 oM,qe9 oM] at *
    have:x / w=v / w:=by
     generalize v / w=u at x1 x2;have h5:u≤x / w:=(Int.le_ediv_iff_mul_le oM).2 x1;have h6:x / w<u+1:=Int.ediv_lt_of_lt_mul oM (by rw[Int.add_mul,Int.one_mul];exact x2);omega
    rw[this]
   generalize hg:qU v w*w=g at hfl hself hblk;have ha:qS s i (max g (qj s i).low)=true:=(hH _).2 (.inr ⟨oM,oM⟩);have hb:qS s i (min (g+w-1) (qj s i).high)=true:=(hH _).2 (.inr ⟨oM,oM⟩);refine⟨max g (qj s i).low,min (g+w-1) (qj s i).high,?_,ha,hb,oM,oM,?_,?_,oM⟩
   ·rw[kF,Aq oM,Aq oM,hw,hself];have:decide (max g (qj s i).low≤min (g+w-1) (qj s i).high)=true:=Cx oM;rw[this];simp
   ·rw[e _ ha oM,hblk _ oM oM]
   ·rw[e _ hb oM,hblk _ oM oM]
 obtain⟨a,b,k1,ha,hb,na,nb,k2,k3,k4⟩:=key;have d1:=hd _ _ ha hv k2;have d2:=hd _ _ hb hv k3;rw[Qv,Aq k4,k1];dsimp only;rw[Aq sMp];by_cases l0:lev=0
 ·subst l0;rw[Aj (show ((0:Nat):Int)=0 from rfl),hC 0 oM _ hv,Aj rfl]
 ·have hno:¬ ((o:Int)=0∧(qj s i).opt=true):=fun k=>by
   have o0:o=0:=by omega
   subst o0;have hms:qS s i qW=true:=(hH qW).2 (.inl ⟨k.2,rfl⟩);have h3:=hd _ _ hms hv (by rw[hC 0 oM _ hv,hC 0 oM _ hms,Aj rfl,Aj rfl]);rw[hC lev hl _ hv,hC lev hl _ hms,Aq l0,Aq l0,Aj rfl,Aq hmv] at h3;exact jn3 (hM.wid lev oM oM) (qR8 hE hi h0 h2 oM oM) oM h3.symm
  rw[Aq oM,Aq hno];rw[hC lev hl _ ha,Aq l0,Aq na] at d1;rw[hC lev hl _ hb,Aq l0,Aq nb] at d2;rw[d1,d2,beq_self_eq_true]
theorem jz6 {s:Sch} (hE:schE s=0) {i:Nat} (hi:i<s.cols.length) (h0:0<i) {o lev:Nat} (ho:(o:Int)≤finI s i) (hl:(lev:Int)≤finI s i) {v:Int} (hv:qS s i v=true)
 (hd:∀ a b,qS s i a=true→qS s i b=true→qk s i o a=qk s i o b→qk s i lev a=qk s i lev b) :
 qk0 s i o (qk s i o v) lev=(qk s i lev v,true):=by
 rw[qk0,Aq (by rw[qm4,qm4];omega),Ax];by_cases h2:(qj s i).kind=2
 ·rw[Aj h2,jo3 hE hi h0 h2 ho hl hv hd];rfl
 ·rw[Aq h2,zt0 hE hi h0 h2 ho hl hv hd];rfl
theorem jz7 {l:CodL} (h:lstE l=0) {c:Nat} (hc:c<l.codes.length):upN l.codes 0 c=0:=by
 obtain⟨hp,h1,h2⟩:=ze h;obtain⟨u1,u2⟩:=jU9 hp (v:=0) c hc oM;refine AQ fun hne=>?_;have hlt:upN l.codes 0 c<l.codes.length:=by omega
 have hpar:0≤parC l.codes (upN l.codes 0 c):=(qe8 h).kid _ oM hlt;have:=YC hp hlt hpar;omega
theorem jo4 {s:Sch} (hE:schE s=0) {i:Nat} (hi:i<s.cols.length) (h0:0<i) {a:Int} (ha:qS s i a=true):qk s i 0 a=0:=by
 by_cases h2:(qj s i).kind=2
 ·have hok:=qO hE;obtain⟨_,d2⟩:=hok.cdl hi h2;have hf:=YN hE h0 hi;obtain⟨c,rfl,c1,c2,c3⟩:=zb9 hE hi h0 h2 (lev:=0) oM ha;show qk s i ((0:Nat):Int) c=0;rw[c3,jz7 d2 c1];rfl
 ·exact YP hE hi h0 h2 ha
theorem jW4 {s:Sch} (hE:schE s=0) {i:Nat} (hi:i<s.cols.length) (h0:0<i) {lev:Nat} (hl:(lev:Int)≤finI s i) {v:Int} (hv:qS s i v=true) :
 canR s i lev (qk s i lev v)=true∧qS s i (zs8 s i lev (qk s i lev v))=true∧qk s i lev (zs8 s i lev (qk s i lev v))=qk s i lev v:=by
 have hok:=qO hE;have hin:inB lev 0 (finI s i)=true:=zP.2 oM;by_cases h2:(qj s i).kind=2
 ·have hm:=(zU hok hi h2).1 hv;have hany:((qA s i).any fun x=>qk s i lev x==qk s i lev v)=true:=DJ.2 ⟨v,hm,beq_self_eq_true _⟩;refine⟨by rw[canR,Aq (by rw[hin];simp),Ax,Aj h2];exact hany,?_⟩;rw[zs8,Aj h2];cases hf:(qA s i).find? fun x=>qk s i lev x==qk s i lev v with
  | none=>
    rw[List.find?_eq_none] at hf;exact absurd (beq_self_eq_true _) (hf v hm)
  | some x=>
    have h3:=List.mem_of_find?_eq_some hf;have h4:=List.find?_some hf;rw[Option.getD_some];exact⟨(zU hok hi h2).2 h3,AY.1 h4⟩
 ·have hm:=wJ hE hi h0 h2;have hlh:=hm.lh;have hf:=hm.fin;have hH:∀ v,(qj s i).low≤v→v≤(qj s i).high→qS s i v=true:=fun v h1 h2=>(wc hm.kind).2 (.inr ⟨h1,h2⟩);have hcan:canR s i lev (qk s i lev v)=if (lev:Int)>0∧qk s i lev v=qW then (qj s i).opt else (blkR (qj s i) lev (qk s i lev v)).2.2:=by
   rw[canR,Aq (by rw[hin];simp),Ax,Aq h2]
  have hsom:zs8 s i lev (qk s i lev v)=if (lev:Int)>0∧qk s i lev v=qW then qk s i lev v else (blkR (qj s i) lev (qk s i lev v)).1:=by
   rw[zs8,Aq h2]
  rw[hcan,hsom];by_cases e0:lev=0
  ·subst e0;have z:=YP hE hi h0 h2 hv;show (if (0:Int)>0∧qk s i 0 v=qW then _ else (blkR (qj s i) 0 (qk s i 0 v)).2.2)=true∧_;rw[Aq (show ¬ ((0:Int)>0∧qk s i 0 v=qW) by omega),Aq (show ¬ (((0:Nat):Int)>0∧qk s i ((0:Nat):Int) v=qW) by omega)];show (blkR (qj s i) 0 (qk s i 0 v)).2.2=true∧qS s i (blkR (qj s i) 0 (qk s i 0 v)).1=true∧qk s i 0 (blkR (qj s i) 0 (qk s i 0 v)).1=qk s i 0 v;have hl:=hH (qj s i).low oM oM;have zl:=YP hE hi h0 h2 hl;rw[z,blkR,Aj rfl];exact⟨rfl,hl,zl⟩
  ·have hw:=hm.wid lev oM oM;have hw2:=qR8 hE hi h0 h2 (l:=lev) oM oM;have hco:=YO hm hl hv;rw[Aq e0] at hco;rcases (wc hm.kind).1 hv with⟨k1,k2⟩ | ⟨k1,k2⟩
   ·rw[Aj k2,k2] at hco;rw[k2,hco,Aj ⟨oM,rfl⟩,Aj ⟨oM,rfl⟩];subst k2;exact⟨k1,hv,hco⟩
   ·have hne:v≠qW:=fun e=>by unfold qW at e;omega
    rw[Aq hne] at hco;have hb:=ZO (v:=v) (w:=qJ (qj s i) lev) oM;have hbn:=jn3 hw hw2 (show -1000000≤v by omega);have hdv:qJ (qj s i) lev ∣ qU v (qJ (qj s i) lev)*qJ (qj s i) lev:=Int.dvd_mul_left _ _;generalize hB:qU v (qJ (qj s i) lev)*qJ (qj s i) lev=b at hco hb hbn hdv;rw[hco,Aq (fun k=>hbn k.2),Aq (fun k=>hbn k.2),blkR,Aq (show ¬ (lev:Int)=0 by omega),Aq (by
     rintro (k | k | k)
     ·exact hbn k
     ·rw[show inB b (-2000000) 2000000=true from zP.2 oM] at k;cases k
     ·exact k (Int.tmod_eq_zero_of_dvd hdv))]
    dsimp only;have hu:=hH (max (qj s i).low b) oM oM;refine⟨Cx oM,hu,?_⟩;rw[YO hm hl hu,Aq e0,Aq (fun e=>by unfold qW at e;omega)];by_cases q:(qj s i).low≤b
    ·rw[show max (qj s i).low b=b by omega];exact zA4 oM hdv
    ·rw[show max (qj s i).low b=(qj s i).low by omega,← hB]
     congr 1
     exact jz5 hw (by rw[hB];omega) (by rw[Int.add_mul,hB,Int.one_mul];omega)
structure Kn (s:Sch) (row:List Int) (l:List Pk) (v:List Int):Prop where
 len:v.length=l.length
 val:∀ i (h:i<l.length),v.getD i 0=qk s l[i].col l[i].lev (row.getD l[i].col.toNat 0)
 pick:∀ p∈l,js s p=0∧0<p.lev
 asc:l.Pairwise fun a b=>a.col<b.col
theorem jO2 {l:List Pk} (ha:l.Pairwise fun a b=>a.col<b.col) {i:Nat} (hi:i<l.length) (h0:0<l[i].lev) (k:Int):mxl (l.take (i+1)) k=if l[i].col=k then l[i].lev else mxl (l.take i) k:=by
 rw[qy hi,jz3];split
 ·rename_i e;have h1:mxl (l.take i) k=0:=QJ fun p hp=>by
   obtain⟨j,hj,rfl⟩:=List.mem_take_iff_getElem.1 hp;have:=DX.1 ha j i oM hi oM;omega
  rw[h1];omega
 ·rfl
theorem qL7 (s:Sch) (hE:schE s=0) (row:List Int) (hrow:rowE s row=0) (l:List Pk) (v:List Int) (K:Kn s row l v) (hll:l.length<1000000):∀ c,nodE s c=0→(∀ a∈atsC c,(decN s a:Int)≤mxl l a.col)→Sp 145 [schT s,cnT c,vPs l,vIs v] [] (vI (evC s row c)) []:=by
 have hok:=qO hE;obtain⟨_,hr,hrh⟩:=wA hrow;have kl:=K.len;refine Cnd.ind' fun c ih hN hA=>?_;obtain⟨hE1,hE2⟩:=zz4 hN;have hnd:=jk9 hE1;have hks:c.kids.length≤2:=by have:=hnd.nk;unfold arC at this;grind
 rw[jl0];have hi:isAt c=((c.op==2)||(c.op==3)||(c.op==4)):=rfl;refine sIr qy1 fun e _ hst=>?_;unfold Qi;refine sW ?_;rw[← hi];refine⟨fun h=>?_,fun h=>?_⟩
 ·rw[Aj h];obtain⟨n1,n2,n3⟩:=KR hE hnd h;obtain⟨_,c1,c2,_⟩:=kz (s:=s) (c:=c.col) oM;have hca:=hA c (by rw[qi8,Aj h];exact Ey.2 rfl);obtain⟨k,hk⟩:=AJ (show 0≤c.col by omega);have hkl:k<s.cols.length:=by omega
  have hh:=hrh k oM;have hkn:c.col.toNat=k:=by omega
  rw[hkn];generalize hx:row.getD k 0=x at hh;refine qt mixm (α:=Nat) [9,10,11] (fun i=>i≤l.length) (fun i=>[(9,vI (mxl (l.take i) c.col)),(10,vI (if mxl (l.take i) c.col=0 then 0 else qk s k (mxl (l.take i) c.col) x)),(11,vI i)]) (fun i=>[aR 4096 2 [schT s],aR 4100 6 [cnT c]]) (fun i=>l.length-i) 0 oM ?_ fun i hi=>?_
  ·exact .oA (U2 4096 4100) []
  refine sD ?_;refine⟨fun h5=>?_,fun h5=>?_⟩
  ·have hi2:i<l.length:=by omega
   have hiv:i<v.length:=by omega
   have hwi:=qh (i:=i) oM;obtain⟨p1,p2⟩:=K.pick _ (AX hi2);have hh2:=jO2 K.asc hi2 p2 c.col;have hv:=K.val i hi2;rw[qg hiv] at hv;simp only[tZ,↓uU,simprocAttr,Ax,qd hi2,qd hiv,hwi,AY,Ak];refine⟨oM,kR,fun h6=>?_,fun h6=>?_⟩
   ·rw[Aj h6] at hh2;have:qk s l[i].col l[i].lev (row.getD l[i].col.toNat 0)=qk s k l[i].lev x:=by
     rw[h6,hk,Ax,hx]
    rw[this] at hv;refine⟨oM,oM,kR,i+1,oM,oM,?_⟩;rw[hh2,Aq oM,← hv];exact .oA (U2 4096 4100) []
   ·rw[Aq h6] at hh2;refine⟨i+1,oM,oM,?_⟩;rw[hh2];exact .oA (U2 4096 4100) []
  ·have hil:i=l.length:=by omega
   subst hil;rw[Bw];have hf:=YN hE (k:=k) oM hkl;have hMf:mxl l c.col≤finI s k:=by
    rw[hk];exact jn0 hf fun p hp e=>by rw[← e];exact (zW (K.pick p hp).1).2.2.2.2
   obtain⟨M,hM⟩:=AJ (ZD l c.col);rw[hM] at hMf hca ⊢
   have hval:(if (M:Int)=0 then 0 else qk s k M x)=qk s k M x:=by
    by_cases e:(M:Int)=0
    ·rw[Aj e,e,jo4 hE hkl oM hh]
    ·rw[Aq e]
   rw[hval,hk];obtain⟨_,s2,s3⟩:=jW4 hE hkl oM hMf hh;have sS:=zs9 s hE k hkl oM M (qk s k M x) ⟨oM,hMf⟩;generalize zs8 s k M (qk s k M x)=u at s2 s3 sS;have hat:Qq s c u=Qq s c x:=by
    have:=jN6 hE hkl oM (o:=decN s c) (lev:=M) oM hMf s2 hh s3;exact jN8 hE hnd h n1 n2 (by rw[hkn];exact s2) (by rw[hkn];exact hh) (by rw[hk];exact this)
   have sA:=QH s hok c hnd u;rw[hat] at sA;refine C1.im sS rF rF ?_;refine sW ?_;rw[← hk];refine C1.im sA rF rF ?_;refine sW ?_;refine⟨kR,?_⟩;exact .oA [] []
 ·rw[Aq (by rw[h];simp)];have hAk:∀ k∈c.kids,∀ a∈atsC k,(decN s a:Int)≤mxl l a.col:=fun k hk a ha=>hA a (by
   rw[qi8,Aq (by rw[h];simp)];have key:∀ L:List Cnd,k∈L→a∈QC L:=by
    intro L
    induction L with
    | nil=>intro h;simp at h
    | cons x r ihl=>
      intro h;rw[QC,Dz];rcases Ck.1 h with e | h
      ·left;rw[← e];exact ha
      ·exact .inr (ihl h)
   exact key _ hk)
  refine qt mixm (α:=Nat) [12,13] (fun i=>i≤c.kids.length) (fun i=>[(12,.asl 1 i),(13,vI i)]) (fun i=>[aR 4096 2 [schT s],aR 4100 6 [cnT c],aR 1 1 (((c.kids.take i).map (evC s row)).map vI)]) (fun i=>c.kids.length-i) 0 oM ?_ fun i hi=>?_
  ·exact .oA [uI 4096,uI 4100,(1,none)] []
  refine sD ?_;refine⟨fun h5=>?_,fun h5=>?_⟩
  ·have hi2:i<c.kids.length:=by omega
   have hwi:=qh (i:=i) oM;simp only[tZ,↓uU,simprocAttr,Ax,qd hi2,Qn];refine⟨oM,?_⟩;refine C1.im (ih _ (AX hi2) (hE2 _ (AX hi2)) (hAk _ (AX hi2))) rF rF ?_;simp only[tZ,↓uU,simprocAttr,hwi];have hlt:(c.kids.take i).length=i:=by simp;omega
   refine⟨oM,kR,i+1,oM,oM,?_⟩;rw[qy hi2,By,By];exact .oA (U3 4096 4100 1) []
  ·have hil:i=c.kids.length:=by omega
   subst hil;rw[Bw];have hj:=qm6 c.op (c.kids.map (evC s row)) (fun e=>by rw[BY,hnd.nk,e];decide) (fun e=>by rw[BY,hnd.nk];rcases e with e | e <;> rw[e] <;> decide) (fun k hk=>by
    obtain⟨x,_,rfl⟩:=Cj.1 hk;exact jH5 s row x)
   refine C1.shut [1] hj ?_ rF rfl ?_
   ·simp only[tL,simprocAttr];exact jg9 _
   refine sW ?_;exact .oA [] []
theorem qB7 (s:Sch) (hE:schE s=0) (hL:0<s.lists.length) (row:List Int) (hrow:rowE s row=0) (l:List Pk) (v:List Int) (K:Kn s row l v) (hll:l.length<1000000) (c:Cnd) (hc:chkC s c=0) (hp:jH s l=0) (hcv:covB (zu s c) l=true):Sp 89 [schT s,cnT c,vPs l,vIs v] [] (vI (evC s row c)) []:=by
 have hok:=qO hE;have hs:=hok.sm;obtain⟨_,hr,hrh⟩:=wA hrow;obtain⟨_,_,_,hN⟩:=YG hc;have kl:=K.len;have hnc:=wR s c;have sC:=jt s hs hL c;rw[hc] at sC;have sP:=yB s hs l oM;rw[hp] at sP;have sN:=yC s hs hL c;have sV:=ZB (zu s c) l oM oM;rw[hcv] at sV;have hA:∀ a∈atsC c,(decN s a:Int)≤mxl l a.col:=fun a ha=>by
  have h1:(⟨a.col,decN s a⟩:Pk)∈atP s c:=Cj.2 ⟨a,ha,rfl⟩;have h2:=zs5 h1;dsimp only at h2;obtain⟨hnd,hia⟩:=zK9 c hN a ha;obtain⟨n1,_,_⟩:=KR hE hnd hia;obtain⟨_,c1,c2,_⟩:=kz (s:=s) (c:=a.col) oM;obtain⟨k,hk⟩:=AJ (show 0≤a.col by omega);rw[hk,← zr9 hc] at h2;rw[hk];by_cases h0:0<mxl (zu s c) k
  ·obtain⟨p,hp1,hp2,hp3⟩:=qB6 h0;unfold covB at hcv;obtain⟨y,hy,hy2⟩:=DJ.1 (Bk.1 hcv p hp1);rw[Bq,AY,AZ] at hy2;have:=zs5 hy;rw[hy2.1,hp2] at this;omega
  ·have:=ZD l k;omega
 have sO:=qL7 s hE row hrow l v K hll c hN hA;generalize zu s c=N at sN sV hnc;refine sIr qx1 fun e _ hst=>?_;unfold yZ;refine sW ?_;refine C1.im sC rF rF ?_;simp only[tZ,↓uU,simprocAttr,bne_self_eq_false];refine C2.im (fun _=>sP) (fun _=>rfl) rF ?_;simp only[tZ,↓uU,simprocAttr,bne_self_eq_false,kl];refine C2.im (fun _=>sN) (fun _=>rfl) rF ?_;refine sW ?_;refine C2.im (fun _=>sV) (fun _=>rfl) rF ?_;refine sW ?_;refine qt mixm (α:=Nat) [9] (fun i=>i≤l.length) (fun i=>[(9,vI i)]) (fun i=>[aR 4096 2 [schT s],aR 4100 6 [cnT c]]) (fun i=>l.length-i) 0 oM ?_ fun i hi=>?_
 ·exact .oA (U2 4096 4100) []
 refine sD ?_;refine⟨fun h5=>?_,fun h5=>?_⟩
 ·have hi2:i<l.length:=by omega
  have hiv:i<v.length:=by omega
  have hwi:=qh (i:=i) oM;have hv:=K.val i hi2;rw[qg hiv] at hv;obtain⟨p1,p2⟩:=K.pick _ (AX hi2);obtain⟨_,q1,q2,q3,q4⟩:=zW p1;have sCn:=YT s hs l[i].col l[i].lev v[i];have hcan:canR s l[i].col l[i].lev v[i]=true:=by
   rw[hv];generalize l[i].col=cc at q1 q2 q4;generalize l[i].lev=ll at q3 q4;obtain⟨k,rfl⟩:=AJ (show 0≤cc by omega);obtain⟨M,rfl⟩:=AJ q3;rw[Ax];exact (jW4 hE oM oM q4 (hrh k oM)).1
  rw[hcan] at sCn;simp only[tZ,↓uU,simprocAttr,Ax,qd hi2,qd hiv,hwi]
  repeat (first | refine⟨oM,?_⟩ | refine⟨kR,?_⟩)
  refine C1.im sCn rF rF ?_;simp only[tZ,↓uU,simprocAttr,hwi];refine⟨kR,i+1,oM,oM,?_⟩;exact .oA (U2 4096 4100) []
 ·refine C1.im sO rF rF ?_;refine sW ?_;exact .oA [] []
theorem jO3 {s:Sch} {P:List Pk} (hp:jH s P=0) {c:Nat} (h0:0<c) (hc:c<s.cols.length):0≤mxl P (c:Int)∧mxl P (c:Int)≤finI s c:=by
 obtain⟨hE,hpk,_⟩:=wP hp;have h1:=ZD P (c:Int);refine⟨h1,?_⟩;by_cases k:0<mxl P (c:Int)
 ·obtain⟨p,hp,e1,e2⟩:=qB6 k;have:=zW (hpk p hp);rw[e1] at this;omega
 ·have:=YN hE h0 hc;omega
theorem jW5 {x:Src} {P:List Pk} {R:List (List Int)} {i:Nat} {k:Int} {row:List Int} (pj:ByteArray) (vr:Int) (hp:jH x.sch P=0) (hi:i<R.length) (hR:R[i]=rowX x P k row) {c:Nat} (h0:0<c) (hc:c<x.sch.cols.length) (hv:qS x.sch c (row.getD c 0)=true) :
 knwP ⟨pj,vr,P,R⟩ i c=(mxl P (c:Int),qk x.sch c (mxl P (c:Int)) (row.getD c 0)):=by
 obtain⟨hE,hpk,hpw⟩:=wP hp;cases ha:P.any fun p=>p.col==(c:Int) with
 | false=>
   have hn:∀ p∈P,p.col≠(c:Int):=fun p hp e=>by
    have:=List.any_eq_false.1 ha p hp;rw[AY] at this;exact this e
   rw[knwP,Aq (by rw[ha];simp),QJ hn];rw[jo4 hE hc h0 hv]
 | true=>
   obtain⟨n,hn,e1,e2⟩:=zA9 ha;have e3:(P.findIdx fun p=>p.col==(c:Int))=n:=by
    have:idxI (fun p:Pk=>p.col==(c:Int)) P=(P.findIdx fun p=>p.col==(c:Int):Nat):=by rw[idxI,Aj ha]
    omega
   rw[AY] at e2;have hmx:mxl P (c:Int)=P[n].lev:=by
    have g1:=zs5 (AX hn);rw[e2] at g1;have g2:=zW (hpk _ (AX hn));by_cases h3:0<mxl P (c:Int)
    ·obtain⟨p,hp,f1,f2⟩:=qB6 h3;obtain⟨m,hm,rfl⟩:=CX hp;have:m=n:=by
      rcases Nat.lt_trichotomy m n with q | q | q
      ·have:=DX.1 hpw m n hm hn q;omega
      ·exact q
      ·have:=DX.1 hpw n m hn hm q;omega
     subst this;exact f2.symm
    ·omega
   rw[knwP,Aj ha];dsimp only;rw[e3,qg hn,qg hi,hR,rowX,List.getD_cons_succ,qg (by rw[BY];exact hn),Fj,hmx,e2,Ax]
theorem jO4 {s:Sch} (hE:schE s=0) {i:Nat} (hi:i<s.cols.length) (h0:0<i) {o:Nat} (ho:(o:Int)≤finI s i) {v:Int} (hv:qS s i v=true):(qB2 s i o (qk s i o v)).2=true:=by
 have hok:=qO hE;by_cases h2:(qj s i).kind=2
 ·have hm:=(zU hok hi h2).1 hv;have hco:upC (qK s i) v o=qk s i o v:=by
   rw[qk,Aq (by rw[Ez,zP];omega),Ax,Aj h2,Aq (by rw[hv];simp)]
  rw[qB2,Aq oM];cases hf:(qA s i).find? fun l=>upC (qK s i) l o==qk s i o v with
  | none=>
    have:=List.find?_eq_none.1 hf v hm;rw[hco] at this;simp at this
  | some y=>rfl
 ·have hM:=wJ hE hi h0 h2;have ht:=zt0 hE hi h0 h2 ho (lev:=0) (by have:=YN hE h0 hi;omega) hv (fun a b ha hb _=>(YP hE hi h0 h2 ha).trans (YP hE hi h0 h2 hb).symm);rw[qB2,Aj hM.kind];rw[Qv] at ht;split at ht
  ·rename_i k;rw[Aj k];exact congrArg Prod.snd ht
  ·rename_i k;rw[Aq k];dsimp only;split at ht
   ·have:=congrArg Prod.snd ht;cases this
   ·rename_i k2;simpa using k2
theorem jo5 {x:Src} {P:List Pk} {R:List (List Int)} {k:Int} {pj:ByteArray} (hX:SrcOk x) (hk:0≤k∧k<1152921504606846976) (hp:jH x.sch P=0) (hn:jr pj=true) (hl:R.length≤200) (hA:AscR R)
 (hR:∀ i (hi:i<R.length),∃ row∈x.rows,R[i]=rowX x P k row):extE x.sch ⟨pj,x.ver,P,R⟩=0:=by
 have hv:=hX.ver;obtain⟨hE,hpk,_⟩:=wP hp;rw[extE,Aq (by rw[hE];simp),Aq (by rw[hn];simp),Aq (by dsimp only;omega),Aq (by rw[hp];simp),Aq (by dsimp only;omega)];refine wO fun i hi=>?_;dsimp only at hi;obtain⟨row,hrm,hr⟩:=hR i hi;have hrE:=hX.rows _ hrm;have hin:=zS1 hrE;have hkr:=jO0 (n:=hd row) hk oM;obtain⟨_,hrl,hrh⟩:=wA hrE;have hfit:fitX x.sch P R[i]=true:=by
  unfold fitX;rw[hr];have e1:hd (rowX x P k row)=keyI k (hd row):=rfl;simp only[Bq,AY,AZ,Bk,Dk];refine⟨⟨⟨by rw[rowX,CJ,BY],by rw[e1];omega⟩,by rw[e1];omega⟩,fun n hn=>?_⟩;have hpn:=zW (hpk _ (AX hn));obtain⟨c,hc⟩:=AJ (show 0≤P[n].col by omega);obtain⟨l,hl⟩:=AJ (show 0≤P[n].lev by omega);unfold fitV;rw[qg hn,rowX,List.getD_cons_succ,qg (by rw[BY];exact hn),Fj,hc,hl,Ax];rw[hc,hl] at hpn;exact jO4 hE oM oM hpn.2.2.2.2 (hrh c oM)
 rw[zB0];dsimp only;rw[qg hi,Aq (by rw[hfit];simp),Aq];rintro ⟨a,b⟩;rw[qg oM] at b;have:=DX.1 hA (i-1) i oM hi oM;omega
theorem zN4 {c:Col} {a v:Int} (hc : -1000000≤c.low∧c.low≤c.high∧c.high≤1000000) (ha:a=0∨(1≤qJ c a∧qJ c a≤1000000)) (hv:¬ (a≠0∧v=qW)) :
 (blkR c a v).2.2=(kF c a v).2.2∧((kF c a v).2.2=true→(blkR c a v).1=(kF c a v).1∧(blkR c a v).2.1=(kF c a v).2.1):=by
 unfold blkR kF;by_cases h0:a=0
 ·rw[Aj h0,Aj h0];exact⟨rfl,fun _=>⟨rfl,rfl⟩⟩
 rw[Aq h0,Aq h0];obtain⟨w1,w2⟩:=ha.resolve_left h0;have hm:v≠qW:=fun k=>hv ⟨h0,k⟩;generalize qJ c a=w at w1 w2 ⊢
 have hfl:(qU v w*w==v)=(v.tmod w==0):=by
  rw[Bool.eq_iff_iff,zM9,AY];constructor
  ·intro h;exact⟨qU v w,by rw[Int.mul_comm];exact h.symm⟩
  ·intro h;exact zA4 oM h
 by_cases hr:v < -2000000∨v>1000000
 ·rw[Aj hr];refine⟨?_,fun h=>by cases h⟩;by_cases hb:v=qW∨inB v (-2000000) 2000000=false∨v.tmod w≠0
  ·rw[Aj hb]
  ·rw[Aq hb];have:inB v (-2000000) 2000000=true:=by
    cases e:inB v (-2000000) 2000000 with
    | true=>rfl
    | false=>exact absurd (.inr (.inl e)) hb
   rw[zP] at this;exact Cq oM
 ·rw[Aq hr];have hin:inB v (-2000000) 2000000=true:=zP.2 oM;by_cases hb:v.tmod w=0
  ·rw[Aq (by rw[hin];simp [hm,hb]),hfl,AY.2 hb,Fq];dsimp only;rw[Int.max_comm,Int.min_comm];exact⟨rfl,fun _=>⟨rfl,rfl⟩⟩
  ·rw[Aj (.inr (.inr hb)),hfl,Ak.2 hb,Bool.false_and];exact⟨rfl,fun h=>by cases h⟩
theorem zc5 {s:Sch} (hE:schE s=0) {i:Nat} (hi:i<s.cols.length) (h0:0<i) {a:Int} (ha:0≤a∧a≤finI s i) (v:Int):canR s i a v=(qB2 s i a v).2:=by
 have hok:=qO hE;rw[canR,Aq (by rw[Ez,zP];exact ha),Ax];by_cases h2:(qj s i).kind=2
 ·rw[Aj h2,qB2,Aq oM];have hco:∀ y∈qA s i,upC (qK s i) y a=qk s i a y:=fun y hy=>by
   have h3:=(zU hok hi h2).2 hy;rw[qk,Aq (by rw[Ez,zP];omega),Ax,Aj h2,Aq (by rw[h3];simp)]
  cases hf:(qA s i).find? fun l=>upC (qK s i) l a==v with
  | none=>
    show ((qA s i).any fun x=>qk s i a x==v)=false;rw[List.any_eq_false];intro y hy;have:=List.find?_eq_none.1 hf y hy;rw[hco y hy] at this;exact this
  | some y=>
    show ((qA s i).any fun x=>qk s i a x==v)=true;have h1:=List.mem_of_find?_eq_some hf;have h3:=List.find?_some hf;rw[hco y h1] at h3;exact DJ.2 ⟨y,h1,h3⟩
 ·have hM:=wJ hE hi h0 h2;rw[Aq h2,qB2,Aj hM.kind];by_cases hm:0<a∧v=qW
  ·rw[Aj hm,Aj (show a>0∧v=qW from hm)]
  ·rw[Aq hm,Aq (show ¬ (a>0∧v=qW) from hm)];obtain⟨n,rfl⟩:=AJ ha.1;have hf:=hM.fin;exact (zN4 hM.lh (by
    rcases DQ n with e | e
    ·left;omega
    ·right;exact⟨hM.wid n oM oM,qR8 hE hi h0 h2 oM oM⟩) oM).1
theorem jO5 {c:Col} {a v:Int} (hc:c.low≤c.high) (h:(kF c a v).2.2=true):c.low≤(kF c a v).1∧(kF c a v).1≤(kF c a v).2.1∧(kF c a v).2.1≤c.high:=by
 unfold kF at h ⊢
 split
 ·exact⟨by dsimp only;omega,by dsimp only;omega,by dsimp only;omega⟩
 ·rename_i h0;rw[Aq h0] at h;split
  ·rename_i h1;rw[Aj h1] at h;cases h
  ·rename_i h1;rw[Aq h1,Bq,AZ] at h;dsimp only at h ⊢
   omega
theorem zt1 (s:Sch) (hs:jY s) (c a v b:Int):Sp 90 [schT s,vI c,vI a,vI v,vI b] [] (.tup [vI (qk0 s c a v b).1,vB (qk0 s c a v b).2]) []:=by
 have sCan:=YT s hs c a v;have sFin:=zM s hs c;have sIn:=zF b 0 (finI s c);by_cases hbad:canR s c a v=false∨inB b 0 (finI s c)=false
 ·have hT:qk0 s c a v b=(0,false):=by
   by_cases hin:inB a 0 (finI s c)=false∨inB b 0 (finI s c)=false
   ·rw[qk0,Aj hin]
   ·have hA:inB a 0 (finI s c)=true:=by cases h:inB a 0 (finI s c) with
     | true=>rfl
     | false=>exact absurd (.inl h) hin
    have hB:inB b 0 (finI s c)=true:=by cases h:inB b 0 (finI s c) with
     | true=>rfl
     | false=>exact absurd (.inr h) hin
    have hcn:canR s c a v=false:=by
     rcases hbad with h | h
     ·exact h
     ·rw[hB] at h;cases h
    rw[zP] at hA hB;obtain⟨hE,c1,c2,_⟩:=kz (s:=s) (c:=c) oM;obtain⟨k,rfl⟩:=AJ (show 0≤c by omega);have hk:k<s.cols.length:=by omega
    have hok:=qO hE;rw[qk0,Aq hin,Ax];rw[zc5 hE hk oM hA] at hcn;by_cases h2:(qj s k).kind=2
    ·rw[Aj h2];rw[qB2,Aq oM] at hcn;cases hf:(qA s k).find? fun l=>upC (qK s k) l a==v with
     | some y=>rw[hf] at hcn;cases hcn
     | none=>
       have:(qA s k).filter (fun x=>upC (qK s k) x a==v)=[]:=List.filter_eq_nil_iff.2 fun y hy=>List.find?_eq_none.1 hf y hy;unfold qf0;rw[this]
       rfl
    ·have hM:=wJ hE hk oM h2;rw[qB2,Aj hM.kind] at hcn;rw[Aq h2,Qv];by_cases hm:0<a∧v=qW
     ·rw[Aj hm] at hcn ⊢
      dsimp only at hcn ⊢
      rw[hcn,Aq sMp]
     ·rw[Aq hm] at hcn ⊢
      rw[Aj hcn]
      rfl
  rw[hT];refine sIr Jo fun e _ hst=>?_;unfold kS;refine sW ?_;refine C1.im sCan rF rF ?_;refine sW ?_;refine C2.im (fun _=>sFin) (fun _=>rfl) rF ?_;refine sW ?_;refine C2.im (fun _=>sIn) (fun _=>rfl) rF ?_;simp only[tZ,↓uU,simprocAttr,tD,Bx,Bz];refine⟨fun _=>?_,fun k=>by rcases hbad with h | h <;> simp [h] at k⟩;exact .oA [] []
 have hcn:canR s c a v=true:=by cases h:canR s c a v with
  | true=>rfl
  | false=>exact absurd (.inl h) hbad
 have hB:inB b 0 (finI s c)=true:=by cases h:inB b 0 (finI s c) with
  | true=>rfl
  | false=>exact absurd (.inr h) hbad
 have hA:inB a 0 (finI s c)=true:=by cases h:inB a 0 (finI s c) with
  | true=>rfl
  | false=>rw[canR,Aj h] at hcn;cases hcn
 have hT:qk0 s c a v b=(let r:=if (qj s c.toNat).kind=2 then qf0 (qA s c.toNat) (fun x=>upC (qK s c.toNat) x a) (fun x=>upC (qK s c.toNat) x b) v else Qv (qj s c.toNat) a v b
  (if r.2=true then r.1 else 0,r.2)):=by rw[qk0,Aq (by rw[hA,hB];simp)]
 rw[hT];rw[zP] at hA;have hB2:=zP.1 hB;obtain⟨hE,c1,c2,_⟩:=kz (s:=s) (c:=c) oM;obtain⟨k,rfl⟩:=AJ (show 0≤c by omega);have hk:k<s.cols.length:=by omega
 have hok:=qO hE;have hat:qj s k=s.cols[k]:=by rw[qj,qg hk]
 have hsome:=zc5 hE hk oM hA v;rw[hcn] at hsome
 replace hsome:=hsome.symm
 rw[Ax];dsimp only;rw[hcn] at sCan;rw[hB] at sIn;by_cases h2:(qj s k).kind=2
 ·rw[Aj h2];have hLf:=jv s hok k hk h2;have hLl:=jM hok hk h2;have sCo:=fun l y=>zk s hs k l y;have hco:∀ l,0≤l→l≤finI s k→∀ y∈qA s k,qk s k l y=upC (qK s k) y l:=fun l l0 hl y hy=>by
   have h3:=(zU hok hk h2).2 hy;rw[qk,Aq (by rw[Ez,zP];omega),Ax,Aj h2,Aq (by rw[h3];simp)]
  have hge:∀ y∈qA s k,0≤upC (qK s k) y b:=fun y hy=>by
   obtain⟨l,rfl⟩:=AJ hB2.1;rw[← hco l oM hB2.2 y hy];obtain⟨c,_,_,_,e⟩:=zb9 hE hk oM h2 hB2.2 ((zU hok hk h2).2 hy);rw[e];omega
  have hne:∃ y∈qA s k,upC (qK s k) y a=v:=by
   rw[qB2,Aq oM] at hsome;cases hf:(qA s k).find? fun l=>upC (qK s k) l a==v with
   | none=>rw[hf] at hsome;cases hsome
   | some y=>exact⟨y,List.mem_of_find?_eq_some hf,by simpa using List.find?_some hf⟩
  have hcoA:=hco a hA.1 hA.2;have hcoB:=hco b hB2.1 hB2.2;rw[hat] at h2;generalize qA s k=L at hLf hLl hge hne hcoA hcoB ⊢
  refine sIr Jo fun e _ hst=>?_;unfold kS;refine sW ?_;refine C1.im sCan rF rF ?_;refine sW ?_;refine C2.im (fun _=>sFin) (fun _=>rfl) rF ?_;refine sW ?_;refine C2.im (fun _=>sIn) (fun _=>rfl) rF ?_;simp only[tZ,↓uU,simprocAttr,Ax,qd hk,AY,Ak];generalize s.cols[k]=x at h2 ⊢
  refine⟨oM,fun _=>?_,fun h=>absurd h2 h⟩;refine C1.im hLf rF rF ?_;refine sW ?_;refine qt mixm (α:=Nat×Int×Bool) [14,15] (fun y=>y.1≤L.length∧TcI (fun x=>upC (qK s k) x b) ((L.take y.1).filter fun x=>upC (qK s k) x a==v) y.2.1 y.2.2∧(y.2.2=true→0≤y.2.1)) (fun y=>[(14,vI (if y.2.2=true then y.2.1 else -1)),(15,vI y.1)]) (fun y=>[aR 4096 2 [schT s]]) (fun y=>L.length-y.1) (0,0,false) ⟨sMp,.inl ⟨rfl,rfl,rfl⟩,fun h=>by cases h⟩ ?_ fun y hy=>?_
  ·exact .oA (U1 4096) []
  obtain⟨i,o,t⟩:=y;obtain⟨y1,y2,y3⟩:=hy;dsimp only at y1 y2 y3;refine sD ?_;refine⟨fun h3=>?_,fun h3=>?_⟩
  ·have hi2:i<L.length:=by omega
   have hwi:=qh (i:=i) oM;have hsp:=zA8 (f:=fun x=>upC (qK s k) x a) (v:=v) hi2;have hbd:=fun e=>zS9 (f:=fun x=>upC (qK s k) x a) (g:=fun x=>upC (qK s k) x b) (v:=v) (o:=o) hi2 e;have sA:=sCo a L[i];have sB:=sCo b L[i];rw[hcoA _ (AX hi2)] at sA;rw[hcoB _ (AX hi2)] at sB;have hgi:=hge _ (AX hi2);simp only[tZ,↓uU,simprocAttr,Ax,qd hi2];refine⟨oM,?_⟩;refine C1.im sA rF rF ?_;simp only[tZ,↓uU,simprocAttr,Bj,Aw,hwi,Ax,qd hi2];refine⟨kR,fun h4=>?_,fun h4=>?_⟩
   ·rw[Aq (by rw[AY];exact h4),CW] at hsp;refine⟨(i+1,o,t),⟨by dsimp only;omega,by dsimp only;rw[hsp];exact y2,y3⟩,by dsimp only;omega,?_⟩;exact .oA (U1 4096) []
   rw[Aj (AY.2 h4)] at hsp;refine⟨oM,?_⟩;refine C1.im sB rF rF ?_;generalize L[i]=x at hsp hbd h4 hgi ⊢
   cases t with
   | false=>
     simp only[tZ,↓uU,simprocAttr,hwi];refine⟨kR,?_⟩;refine⟨(i+1,upC (qK s k) x b,true),⟨by dsimp only;omega,?_,fun _=>hgi⟩,by dsimp only;omega,?_⟩
     ·dsimp only;rw[hsp];rcases y2 with⟨k1,k2,k3⟩ | ⟨z,r,k1,k2,k3,k4⟩
      ·exact .inr ⟨x,[],by rw[k1];rfl,sMp,rfl,rfl⟩
      ·cases k4
     ·exact .oA (U1 4096) []
   | true=>
     simp only[tZ,↓uU,simprocAttr,tD,Bj,Aw,hwi];refine⟨kR,fun h5=>?_,fun h5=>?_⟩
     ·rw[hbd y2 (AY.2 h4) h5.2];exact .oA [] []
     ·have hx:upC (qK s k) x b=o:=by
       have:=y3 rfl;omega
      refine⟨(i+1,upC (qK s k) x b,true),⟨by dsimp only;omega,?_,fun _=>hgi⟩,by dsimp only;omega,?_⟩
      ·dsimp only;rw[hsp];rcases y2 with⟨k1,k2,k3⟩ | ⟨z,r,k1,k2,k3,k4⟩
       ·cases k3
       ·refine .inr ⟨z,r++[x],by rw[k1];rfl,fun y hy=>?_,by rw[hx,k3],rfl⟩;rcases Dz.1 hy with hy | hy
        ·exact k2 y hy
        ·rw[Ey.1 hy];dsimp only;rw[hx,k3]
      ·exact .oA (U1 4096) []
  ·have hil:i=L.length:=by omega
   subst hil;rw[Bw] at y2;rw[TcI.fin y2];have ht:t=true:=by
    rcases y2 with⟨m1,_,_⟩ | ⟨_,_,_,_,_,m⟩
    ·obtain⟨y,q1,q2⟩:=hne;have:=List.filter_eq_nil_iff.1 m1 y q1;rw[q2] at this;simp at this
    ·exact m
   subst ht;exact .oA [] []
 ·rw[Aq h2];have hM:=wJ hE hk oM h2;rw[qB2,Aj hM.kind] at hsome;have hf:=hM.fin;have hw:=fun lev (h1:0≤lev∧lev≤finI s k)=>show lev=0∨(1≤lev∧lev≤(qj s k).widths.length∧(qj s k).widths.length≤4∧1≤qJ (qj s k) lev∧qJ (qj s k) lev≤1000000) by
   rcases Int.lt_or_le 0 lev with q | q
   ·right
    obtain⟨w1,w2,_,w4,_⟩:=hok.wid hk oM h2 (lev:=lev) oM;exact⟨oM,oM,w4,w1,w2⟩
   ·left;omega
  have sBk:=JN (qj s k) a v (hw a hA);have sCo:=fun y=>zk s hs k b y;rw[hat] at h2 sBk hsome;have hTm:Qv s.cols[k] a v b=Qv (qj s k) a v b:=by rw[hat]
  rw[← hTm];refine sIr Jo fun e _ hst=>?_;unfold kS;refine sW ?_;refine C1.im sCan rF rF ?_;refine sW ?_;refine C2.im (fun _=>sFin) (fun _=>rfl) rF ?_;refine sW ?_;refine C2.im (fun _=>sIn) (fun _=>rfl) rF ?_;simp only[tZ,↓uU,simprocAttr,Ax,qd hk,AY,Ak];refine⟨oM,fun h=>absurd h h2,fun _=>?_⟩;have hlh:=hM.lh;have hmi:qW = -1099511627776:=rfl;have hkind:=hM.kind;have cT:Qv s.cols[k] a v b=if 0<a∧v=qW then ((if b=0 then 0 else v),s.cols[k].opt)
   else if (kF s.cols[k] a v).2.2=false then (0,false)
   else if b=0 then (0,true)
   else if a=0∧s.cols[k].opt=true then (0,false)
   else (qU (kF s.cols[k] a v).1 (qJ s.cols[k] b)*qJ s.cols[k] b,qU (kF s.cols[k] a v).1 (qJ s.cols[k] b)*qJ s.cols[k] b==qU (kF s.cols[k] a v).2.1 (qJ s.cols[k] b)*qJ s.cols[k] b):=rfl
  refine⟨fun h3=>?_,fun h3=>⟨fun h4=>?_,fun h4=>⟨fun h5=>?_,fun h5=>?_⟩⟩⟩
  ·have e:Qv s.cols[k] a v b=(0,true):=by
    rw[cT];by_cases hm:0<a∧v=qW
    ·rw[Aj hm] at hsome ⊢
     rw[Aj h3];exact Prod.ext rfl hsome
    ·rw[Aq hm] at hsome ⊢
     dsimp only at hsome;rw[Aq (by rw[hsome];simp),Aj h3]
   rw[e];exact .oA [] []
  ·rw[Bq,AZ,AY] at h4;have hm:0<a∧v=qW:=⟨oM,h4.2⟩;have e:Qv s.cols[k] a v b=(-1099511627776,true):=by
    rw[cT];rw[Aj hm] at hsome ⊢
    rw[Aq h3];exact Prod.ext h4.2 hsome
   rw[e];exact .oA [] []
  ·rw[Bq,AY] at h5;have hm:¬ (0<a∧v=qW):=by omega
   rw[Aq hm] at hsome;dsimp only at hsome;have e:Qv s.cols[k] a v b=(0,false):=by
    rw[cT,Aq hm,Aq (by rw[hsome];simp),Aq h3,Aj h5]
   rw[e];exact .oA [] []
  ·have hm:¬ (0<a∧v=qW):=fun q=>by
    rw[Bool.eq_false_iff] at h4;exact h4 (by rw[Bq,AZ,AY];exact⟨oM,q.2⟩)
   have hno:¬ (a=0∧s.cols[k].opt=true):=fun q=>by
    rw[Bool.eq_false_iff] at h5;exact h5 (by rw[Bq,AY];exact q)
   rw[Aq hm] at hsome;dsimp only at hsome;rw[hat] at hlh hkind hw hf;obtain⟨g1,g2,g3⟩:=jO5 oM hsome;obtain⟨b1,b2⟩:=zN4 (c:=s.cols[k]) (a:=a) (v:=v) hlh (by have:=hw a hA;omega) oM;obtain⟨b3,b4⟩:=b2 hsome;have e:Qv s.cols[k] a v b=(qU (kF s.cols[k] a v).1 (qJ s.cols[k] b)*qJ s.cols[k] b,qU (kF s.cols[k] a v).1 (qJ s.cols[k] b)*qJ s.cols[k] b==qU (kF s.cols[k] a v).2.1 (qJ s.cols[k] b)*qJ s.cols[k] b):=by
    rw[cT,Aq hm,Aq (by rw[hsome];simp),Aq h3,Aq hno]
   obtain⟨l,hl⟩:=AJ hB2.1;have hcm:∀ y,s.cols[k].low≤y→y≤s.cols[k].high→qk s k b y=qU y (qJ s.cols[k] b)*qJ s.cols[k] b:=fun y y1 y2=>by
    have hy:qS s k y=true:=(wc hM.kind).2 (.inr (by rw[hat];exact⟨y1,y2⟩));have:=YO hM (lev:=l) oM hy;rw[hl,this,Aq oM,Aq oM,hat]
   have sC1:=sCo (blkR s.cols[k] a v).1;have sC2:=sCo (blkR s.cols[k] a v).2.1;rw[b3] at sC1;rw[b4] at sC2;rw[hcm _ oM oM] at sC1 sC2;rw[e];refine C1.im sBk rF rF ?_;rw[b3,b4];generalize qU (kF s.cols[k] a v).1 (qJ s.cols[k] b)*qJ s.cols[k] b=X at sC1 ⊢
   generalize qU (kF s.cols[k] a v).2.1 (qJ s.cols[k] b)*qJ s.cols[k] b=Y at sC2 ⊢
   refine sW ?_;refine C1.im sC1 rF rF ?_;refine sW ?_;refine C1.im sC2 rF rF ?_;simp only[tZ,↓uU,simprocAttr,Bj,Aw];refine⟨kR,fun h6=>?_,fun h6=>?_⟩
   ·rw[Ak.2 h6,Aq sMp];exact .oA [] []
   ·rw[AY.2 h6,Aj rfl];exact .oA [] []
theorem zc6 (s:Sch) (hs:jY s) (hE:schE s=0) (x:Ext) (hpl:x.picks.length≤1000) (hrn:x.rows.length≤1000000) (hr:∀ r∈x.rows,r.length=x.picks.length+1) (r c lev:Int):Sp 33 [schT s,extT x,vI r,vI c,vI lev] [] (.tup [vI (if r<0∨r≥x.rows.length then 0 else (knwI s x r.toNat c lev).1),vB (if r<0∨r≥x.rows.length then false else (knwI s x r.toNat c lev).2)]) []:=by
 by_cases h1:r<0∨r≥x.rows.length
 ·rw[Aj h1,Aj h1];refine sIr QQ fun e _ hst=>?_;unfold jW;refine sD ?_;refine⟨fun _=>?_,fun k=>by omega⟩;exact .oA [] []
 rw[Aq h1,Aq h1];obtain⟨j,rfl⟩:=AJ (show 0≤r by omega);have hj:j<x.rows.length:=by omega
 have hrl:=hr _ (AX hj);rw[Ax];by_cases h2:c<1∨c≥s.cols.length
 ·have hT:knwI s x j c lev=(0,false):=by
   have:finI s c = -1:=by rw[finI,Aj oM]
   rw[knwI,qk0,Aj (by
    right
    rw[this,qm4];omega)]
  rw[hT];refine sIr QQ fun e _ hst=>?_;unfold jW;refine sD ?_;refine⟨fun _=>?_,fun k=>by omega⟩;exact .oA [] []
 have sT:=fun a v=>zt1 s hs c a v lev;have hnone:(x.picks.any fun p=>p.col==c)=false→knwI s x j c lev=qk0 s c 0 0 lev:=fun ha=>by rw[knwI,knwP,Aq (by rw[ha];simp)]
 have hhit:∀ i (hi:i<x.picks.length),((x.picks.take i).any fun p=>p.col==c)=false→(x.picks[i].col==c)=true→knwI s x j c lev=qk0 s c x.picks[i].lev (x.rows[j].getD (i+1) 0) lev:=fun i hi h3 h4=>by
  have e:=jI (p:=fun p:Pk=>p.col==c) hi h3 h4;rw[knwI,knwP,Aj (ql9 (p:=fun p:Pk=>p.col==c) hi h4),e,qg hi,qg hj]
 generalize knwI s x j c lev=w at hnone hhit ⊢
 refine sIr QQ fun e _ hst=>?_;unfold jW;refine sD ?_;refine⟨fun k=>by omega,fun _=>?_⟩;refine qt mixm (α:=Nat) [12] (fun i=>i≤x.picks.length∧(((x.picks.take i).any fun p=>p.col==c)=false)) (fun i=>[(12,vI i)]) (fun i=>[aR 4096 2 [schT s],aR 4100 4 [extT x]]) (fun i=>x.picks.length-i) 0 ⟨oM,?_⟩ ?_ fun i hi=>?_
 ·rfl
 ·exact .oA (U2 4096 4100) []
 simp only[tZ,↓uU,simprocAttr,AZ,Ay];refine⟨fun h=>?_,fun h=>?_⟩
 ·have hi2:i<x.picks.length:=by omega
  have hwi:=qh (i:=i) oM;have hil:i+1<x.rows[j].length:=by omega
  have hgr:(x.rows[j].map vI).getD (i+1) .junk=vI (x.rows[j].getD (i+1) 0):=by rw[qd hil,qg hil]
  have hi2:i<x.picks.length:=by omega
  have hwi:=qh (i:=i) oM;simp only[tZ,↓uU,simprocAttr,Ax,qd hi2,hwi,qd hj];refine⟨oM,fun h3=>?_,fun h3=>?_⟩
  ·have sTi:=sT x.picks[i].lev (x.rows[j].getD (i+1) 0);rw[← hhit i hi2 hi.2 h3] at sTi;simp only[tZ,↓uU,simprocAttr,Ax,qd hi2,qd hj,hwi,hgr];refine⟨oM,oM,oM,?_⟩;refine C1.im sTi rF rF ?_;refine sW ?_;refine⟨kR,?_⟩;exact .oA [] []
  ·refine⟨i+1,⟨oM,zV hi2 hi.2 h3⟩,oM,?_⟩;exact .oA (U2 4096 4100) []
 ·have hi2:i=x.picks.length:=by omega
  subst hi2;have sTi:=sT 0 0;have h3:=hi.2;rw[Bw] at h3;rw[← hnone h3] at sTi;refine C1.im sTi rF rF ?_;refine sW ?_;exact .oA [] []
theorem qf3 (s:Sch) (hs:jY s) (x:Ext) (hp:x.picks.length<4611686018427387904) (hr:∀ r∈x.rows,r.length<4611686018427387904):Sp 27 [schT s,extT x] [] (vI (extE s x)) []:=by
 refine sIr qE0 fun e _ hst=>?_;unfold QP;refine sW ?_;refine C1.im (zy s hs) rF rF ?_;simp only[tZ,↓uU,simprocAttr,Bj,Aw];refine⟨fun h=>?_,fun h=>?_⟩
 ·rw[extE,Aj h];exact .oA [] []
 rw[extE,Aq (by rw[h];simp)];refine C1.im (jF x.proj) rF rF ?_;simp only[tZ,↓uU,simprocAttr,tD,Bx,Bz,gt_iff_lt];refine⟨fun h2=>?_,fun h2=>⟨fun h3=>?_,fun h3=>?_⟩⟩
 ·rw[Aj h2];exact .oA [] []
 ·rw[Aq (by rw[h2];simp),Aj h3];exact .oA [] []
 rw[Aq (by rw[h2];simp),Aq oM];refine C1.im (yB s hs x.picks hp) rF rF ?_;simp only[tZ,↓uU,simprocAttr,Bj,Aw];refine⟨fun h4=>?_,fun h4=>?_⟩
 ·rw[Aj h4];exact .oA [] []
 rw[Aq (by rw[h4];simp)];simp only[tZ,↓uU,simprocAttr,tD,gt_iff_lt];refine⟨fun h5=>?_,fun h5=>?_⟩
 ·rw[Aj oM];exact .oA [] []
 rw[Aq oM];have hpl:=zq7 h4;obtain⟨hE,hpk,_⟩:=wP h4;generalize hEE:jh (zB0 s x) x.rows.length=E;refine qt mixm (α:=Nat) [7] (fun i=>i≤x.rows.length∧(jh (zB0 s x) i=0)) (fun i=>[(7,vI i)]) (fun i=>[aR 4096 2 [schT s],aR 4100 4 [extT x]]) (fun i=>x.rows.length-i) 0 ⟨oM,?_⟩ ?_ fun i hi=>?_
 ·rfl
 ·exact .oA (U2 4096 4100) []
 simp only[tZ,↓uU,simprocAttr,AZ,Ay];refine⟨fun h=>?_,fun h=>?_⟩
 ·have hi2:i<x.rows.length:=by omega
  have hg:x.rows.getD i []=x.rows[i]:=qg hi2;have hstep:=yJ hi.2 hi2;have hnext:=jG hi.2;have hA:zB0 s x i=if fitX s x.picks x.rows[i]=false then 9 else if 0<i∧hd x.rows[i]≤hd (x.rows.getD (i-1) []) then 10 else 0:=by rw[zB0,hg]
  have hprev:0<i→fitX s x.picks (x.rows.getD (i-1) [])=true:=fun h0=>by
   have:=yI hi.2 (i-1) oM;unfold zB0 at this;split at this
   ·cases this
   ·rename_i k;simpa using k
  rw[hEE] at hstep;have hwl:=qh (i:=x.picks.length) oM;have hwi:=qh (i:=i) oM;have hnofit:fitX s x.picks x.rows[i]=false→E=9:=fun hf=>by
   rw[Aj hf] at hA;rw[hstep (by rw[hA];simp),hA]
  by_cases hl:x.rows[i].length=x.picks.length+1
  ·have hip:0<x.rows[i].length:=by omega
   have hgi:=kA hip;have q1:((x.rows[i].length:Int) != ((x.picks.length+1:Nat):Int))=false:=by rw[Aw];omega
   have hX:fitX s x.picks x.rows[i]=(decide (0≤hd x.rows[i])&&decide (hd x.rows[i]≤1048575)&&(List.range x.picks.length).all (fitV s x.picks x.rows[i])):=by
    rw[fitX,AY.2 hl,Fq]
   obtain⟨k,hk1,hk2,hk3⟩:∃ k:Nat,(IntKind.i64.wrap ((i:Int)-1)).toNat=k∧k<x.rows.length∧(i=0∧k=0∨0<i∧k+1=i∧IntKind.i64.wrap ((i:Int)-1)=k):=by
    rcases DQ i with h0 | h0
    ·subst h0;exact⟨0,by decide,hi2,.inl ⟨rfl,rfl⟩⟩
    ·have e:=kK h0 (show i<4611686018427387904 by omega);exact⟨i-1,by rw[e];omega,oM,.inr ⟨h0,oM,e⟩⟩
   have hkp:0<x.rows[k].length:=by
    rcases hk3 with⟨a,b⟩ | ⟨a,b,_⟩
    ·subst a;subst b;exact hip
    ·have:=(jO1 (hprev a)).1;rw[show i-1=k by omega,qg hk2] at this;omega
   have hgk:0<i→x.rows.getD (i-1) []=x.rows[k]:=fun h0=>by
    rw[show i-1=k by omega,qg hk2]
   have hi2:i<x.rows.length:=by omega
   have hwi:=qh (i:=i) oM;simp only[tZ,↓uU,simprocAttr,Ax,qd hi2,hwi,hwl,q1,hgi];refine⟨oM,oM,fun _=>by omega,fun h6=>?_,fun h6=>?_⟩
   ·rw[hnofit (by
     rw[hX,show (decide (0≤hd x.rows[i])&&decide (hd x.rows[i]≤1048575))=false from by
      rw[Bool.eq_false_iff];intro k;simp only[Bq,AZ,DZ] at k h6;omega,Bool.false_and])]
    exact .oA [] []
   have h6':(decide (0≤hd x.rows[i])&&decide (hd x.rows[i]≤1048575))=true:=by
    simp only[Bq,AZ,FX,Ay] at h6 ⊢
    omega
   rw[h6',Fq] at hX;refine qt mixm (α:=Nat) [9] (fun n=>n≤x.picks.length∧(List.range n).all (fitV s x.picks x.rows[i])=true) (fun n=>[(9,vI n)]) (fun n=>[aR 4096 2 [schT s],aR 4100 4 [extT x]]) (fun n=>x.picks.length-n) 0 ⟨oM,rfl⟩ ?_ fun n hn=>?_
   ·exact .oA (U2 4096 4100) []
   refine sD ?_;refine⟨fun h7=>?_,fun h7=>?_⟩
   ·have hn2:n<x.picks.length:=by omega
    have hwn:=qh (i:=n) oM;have hpn:=zW (hpk _ (AX hn2));obtain⟨c,hc⟩:=AJ (show 0≤x.picks[n].col by omega);have hrl:n+1<x.rows[i].length:=by omega
    have hgr:(x.rows[i].map vI).getD (n+1) .junk=vI (x.rows[i].getD (n+1) 0):=by rw[qd hrl,qg hrl]
    have sC:=YT s hs x.picks[n].col x.picks[n].lev (x.rows[i].getD (n+1) 0);have hV:canR s x.picks[n].col x.picks[n].lev (x.rows[i].getD (n+1) 0)=fitV s x.picks x.rows[i] n:=by
     rw[hc] at hpn ⊢
     rw[zc5 hE oM oM oM,fitV,qg hn2,hc,Ax]
    rw[hV] at sC;simp only[tZ,↓uU,simprocAttr,Ax,qd hn2,hwn,hgr];refine⟨oM,oM,oM,?_⟩;refine C1.im sC rF rF ?_;simp only[tZ,↓uU,simprocAttr,Bx,Bz,hwn];refine⟨kR,fun h8=>?_,fun h8=>?_⟩
    ·rw[hnofit (by rw[hX,jn8 hn2 h8])];exact .oA [] []
    ·refine⟨n+1,⟨oM,by rw[zT0,hn.2,h8];rfl⟩,oM,?_⟩;exact .oA (U2 4096 4100) []
   ·have hnl:n=x.picks.length:=by omega
    subst hnl;have hn2:=hn.2;rw[hn2] at hX;rw[Aq (by rw[hX];simp)] at hA;simp only[tZ,↓uU,simprocAttr,hk1,qd hk2,hgi,kA hkp,tD,gt_iff_lt,hwi];refine⟨fun _=>by omega,fun _=>by omega,fun _=>by omega,kR,fun h8=>?_,fun h8=>?_⟩
    ·have h9:0<i:=by omega
     rw[Aj ⟨h9,by rw[hgk h9];exact h8.2⟩] at hA;rw[hstep (by rw[hA];simp),hA];exact .oA [] []
    ·rw[Aq (fun k=>by
      have h9:=k.1;rw[hgk h9] at k;omega)] at hA
     refine⟨i+1,⟨oM,by rw[hnext,hA]⟩,oM,?_⟩;exact .oA (U2 4096 4100) []
  ·have hf:fitX s x.picks x.rows[i]=false:=by
    rw[fitX,Ak.2 hl];rfl
   have q1:((x.rows[i].length:Int) != ((x.picks.length+1:Nat):Int))=true:=by rw[Bj];omega
   rw[hnofit hf];by_cases h0:0<x.rows[i].length
   ·have hgi:=kA h0;have hi2:i<x.rows.length:=by omega
    have hwi:=qh (i:=i) oM;simp only[tZ,↓uU,simprocAttr,Ax,qd hi2,hwi,hwl,q1,hgi];refine⟨oM,?_⟩;exact .oA [] []
   ·have h0e:x.rows[i]=[]:=Dy.1 oM;have hb1:∀ n,binR BinOp.lss false (((List.map vI ([]:List Int)).getD 0 T.junk).cells.getD 0 T.junk) (T.v (Value.int IntKind.i64 n))=none:=fun _=>rfl;have hb2:∀ n,binR BinOp.gtr false (((List.map vI ([]:List Int)).getD 0 T.junk).cells.getD 0 T.junk) (T.v (Value.int IntKind.i64 n))=none:=fun _=>rfl;have q0:((0:Int) != ((x.picks.length+1:Nat):Int))=true:=by rw[Bj];omega
    have hi2:i<x.rows.length:=by omega
    have hwi:=qh (i:=i) oM;simp only[tZ,↓uU,simprocAttr,Ax,qd hi2,hwi,h0e,hwl,q0,hb1,hb2];refine⟨oM,?_⟩;exact .oA [] []
 ·have hi2:i=x.rows.length:=by omega
  subst hi2;rw[← hEE,hi.2];exact .oA [] []
theorem jz8 {e:Env} {s s' s2:St} (h1:Le e s s') (h2:Le e s' s2):Le e s s2:=fun ι a w hR=>by
 obtain⟨ι',hR'⟩:=h1 ι a w hR;exact h2 ι' a w hR'
def ju (s:Sch) (n:Nat):List Pk:=(List.range n).map fun k:Nat=>⟨((k+1:Nat):Int),finI s ((k+1:Nat):Int)⟩
theorem zT1 (s:Sch) (n:Nat):ju s (n+1)=ju s n++[⟨((n+1:Nat):Int),finI s ((n+1:Nat):Int)⟩]:=by
 rw[ju,List.range_succ,By];rfl
theorem qB8 (s:Sch) (n:Nat):(ju s n).length=n:=by rw[ju,BY,List.length_range]
def allQ:Qst:=⟨⟨#[113]⟩,1,.mk 1 0 0 0 0 [],[⟨1,0⟩],-1,[],cnd0⟩
def allD:Dcl:=⟨⟨#[97,108,108,95,114,111,119,115]⟩,⟨#[115,114,99]⟩,.mk 1 0 0 0 0 [],⟨1,1,0⟩,[allQ]⟩
theorem zT2 (s:Sch) (hs:jY s) (h1:1≤s.cols.length) (hsm2:s.cols.length≤1000000):Sp 24 [schT s] [] (.tup [dclT allD,vPs (ju s (s.cols.length-1))]) []:=by
 have hsm:=hs.2.1;refine jl [8] zx5 mixm sMp fun e _ hst=>wW ?_;unfold Yc;simp only[yO,List.contains_cons,List.contains_nil,Nat.reduceBEq,Bool.or_false,Bool.or_true,Bool.true_or,Bool.false_or,cond_true,cond_false];refine sW ?_;refine qt mixm (α:=Nat) [5,6] (fun i=>i+1≤s.cols.length) (fun i=>[(5,.asl 1 i),(6,vI (i+1:Nat))]) (fun i=>[aR 4096 2 [schT s],aR 4100 12 [.agg [vS ⟨#[]⟩,vS ⟨#[]⟩,vI 0,vI 0,vI 0,vI 0,vI 0,.v (.slice none 0 0),vI 0,vI 0,vI 0,.v (.slice none 0 0)]],aR 8204 12 [.agg [vS allD.proj,vS allD.src,vI 1,vI 0,vI 0,vI 0,vI 0,.v (.slice none 0 0),vI 1,vI 1,vI 0,.v (.slice none 0 0)]],aR 1 2 ((ju s i).map pkT)]) (fun i=>s.cols.length-i) 0 oM ?_ fun i hi=>?_
 ·exact .oA [uI 4096,uI 4100,uI 8204,(1,none)] []
 have hwi:=qh (i:=i+1) oM;have hfl:=qB8 s i;refine sD ?_;refine⟨fun h4=>?_,fun h4=>?_⟩
 ·have sF:=zM s hs ((i+1:Nat):Int);have hsu:=zT1 s i;refine C1.im sF rF rF ?_;simp only[tZ,↓uU,simprocAttr,hwi];refine⟨⟨hfl,oM⟩,i+1,oM,oM,?_⟩;rw[hsu,By];exact .oA (U4 4096 4100 8204 1) []
 ·have hil:i=s.cols.length-1:=by omega
  subst hil;refine jY5 [aR 4100 12 [.agg [vS ⟨#[]⟩,vS ⟨#[]⟩,vI 0,vI 0,vI 0,vI 0,vI 0,.v (.slice none 0 0),vI 0,vI 0,vI 0,.v (.slice none 0 0)]],aR 8204 12 [.agg [vS allD.proj,vS allD.src,vI 1,vI 0,vI 0,vI 0,vI 0,.sl 6 [],vI 1,vI 1,vI 0,.sl 17 [qstT allQ]]],aR 1 2 ((ju s (s.cols.length-1)).map pkT)] (jz8 (s':=⟨[(2,.ptr 4100 1 0 0),(4,.ptr 8204 1 0 0),(5,.asl 1 (s.cols.length-1))],[aR 4100 12 [.agg [vS ⟨#[]⟩,vS ⟨#[]⟩,vI 0,vI 0,vI 0,vI 0,vI 0,.v (.slice none 0 0),vI 0,vI 0,vI 0,.v (.slice none 0 0)]],aR 8204 12 [.agg [vS allD.proj,vS allD.src,vI 1,vI 0,vI 0,vI 0,vI 0,.v (.slice none 0 0),vI 1,vI 1,vI 0,.asl 32784 1]],aR 1 2 ((ju s (s.cols.length-1)).map pkT),aR 32784 17 [.agg [vS ⟨#[113]⟩,vI 1,vI 1,vI 0,vI 0,vI 0,vI 0,.sl 6 [],.sl 2 [.agg [vI 1,vI 0]],vI (-1),.sl 1 [],vI 0,vI 0,vI 0,vI 0,vI 0,.sl 6 []]]]⟩) ?_ ?_) ?_
  ·refine .of (U4 4100 8204 1 32784) [32776] rfl (by first | rfl | (rw[hst];rfl)) ?_ ?_
   all_goals (try simp only[tL,simprocAttr,By,List.map_cons,List.map_nil,BW,Cy])
   all_goals (try (repeat' (first | exact zq | (apply jm;intro _;exact⟨rfl,rfl⟩) | (apply qV;intro _;exact⟨rfl,rfl⟩) | with_reducible apply zm | with_reducible refine zj ⟨rfl,rfl⟩ ?_ | exact zC | with_reducible apply zg | with_reducible refine zf ⟨rfl,rfl,?_⟩ ?_ | with_reducible apply Az | exact zh rfl | exact zh (by assumption) | (refine⟨⟨?_,rfl,?_,rfl,?_⟩,trivial⟩ <;> first | (simp;done) | (apply qV;intro _;exact⟨rfl,rfl⟩)) | trivial | rfl | (rw[qh oM]) | omega)))
   simp only[T.cells,tL,simprocAttr]
   all_goals (try exact clA)
  ·refine .of (U3 4100 8204 1) [32784] rfl (by first | rfl | (rw[hst];rfl)) ?_ ?_
   all_goals (try simp only[tL,simprocAttr,By,List.map_cons,List.map_nil,BW,Cy])
   all_goals (try (repeat' (first | exact zq | (apply jm;intro _;exact⟨rfl,rfl⟩) | (apply qV;intro _;exact⟨rfl,rfl⟩) | with_reducible apply zm | with_reducible refine zj ⟨rfl,rfl⟩ ?_ | exact zC | with_reducible apply zg | with_reducible refine zf ⟨rfl,rfl,?_⟩ ?_ | with_reducible apply Az | exact zh rfl | exact zh (by assumption) | (refine⟨⟨?_,rfl,?_,rfl,?_⟩,trivial⟩ <;> first | (simp;done) | (apply qV;intro _;exact⟨rfl,rfl⟩)) | trivial | rfl | (rw[qh oM]) | omega)))
   simp only[T.cells,tL,simprocAttr]
   all_goals (try exact clA)
  refine sW ?_;have hq:qstT allQ = .agg [vS ⟨#[113]⟩,vI 1,vI 1,vI 0,vI 0,vI 0,vI 0,.sl 6 [],.sl 2 [.agg [vI 1,vI 0]],vI (-1),.sl 1 [],vI 0,vI 0,vI 0,vI 0,vI 0,.sl 6 []]:=rfl;exact .oA [] [1]
set_option maxHeartbeats 4000000
theorem zc7 {s:Sch} (hE:schE s=0) {c:Nat} (h0:0<c) (hc:c<s.cols.length):0≤finI s c:=by
 have hok:=qO hE;unfold finI;rw[Aq (by rw[hE];simp;omega),Ax];split
 ·rename_i h2;obtain⟨_,d2⟩:=hok.cdl hc h2;unfold zA;rw[Aq (by rw[d2];simp)];omega
 ·omega
theorem zt2 {s:Sch} (hE:schE s=0):∀ p∈ju s (s.cols.length-1),js s p=0∧p.lev=finI s p.col:=fun p hp=>by
 obtain⟨k,hk,rfl⟩:=Cj.1 hp;rw[Dk] at hk;have:=zc7 hE (c:=k+1) oM oM;refine⟨?_,rfl⟩;unfold js;dsimp only;rw[Aq (by rw[hE];simp),Aq oM,Aq];rw[qm4];omega
theorem zN5 (s:Sch) (n:Nat):(ju s n).Pairwise fun a b=>a.col<b.col:=by
 unfold ju;refine List.pairwise_map.2 (List.pairwise_lt_range.imp fun h=>?_);dsimp only;omega
theorem yK {s:Sch} (hE:schE s=0):jH s (ju s (s.cols.length-1))=0:=by
 have hA:=zN5 s (s.cols.length-1);have hP:=zt2 hE;generalize ju s (s.cols.length-1)=P at hA hP;unfold jH;rw[Aq (by rw[hE];simp)];refine wO fun i hi=>?_;unfold qz7 pkAt;rw[qg hi,(hP _ (AX hi)).1,Aq sMp,Aq];rintro ⟨h1,h2⟩;rw[qg (show i-1<P.length by omega)] at h2;have:=DX.1 hA (i-1) i oM hi oM;omega
theorem jz9 {s:Sch} {c:Nat} (h0:0<c) (hc:c<s.cols.length) (hE:schE s=0):mxl (ju s (s.cols.length-1)) c=finI s c:=by
 have h1:=jO3 (yK hE) h0 hc;have hm:(⟨(c:Int),finI s c⟩:Pk)∈ju s (s.cols.length-1):=by
  refine Cj.2 ⟨c-1,Dk.2 oM,?_⟩;rw[show c-1+1=c by omega]
 have h2:=zs5 hm;dsimp only at h2;omega
theorem jW6 {x:Src} (hE:schE x.sch=0) {R:List (List Int)} {i:Nat} {k:Int} {row:List Int} (pj:ByteArray) (vr:Int) (hi:i<R.length) (hR:R[i]=rowX x (ju x.sch (x.sch.cols.length-1)) k row) (hrow:rowE x.sch row=0) {ds:List Pk} (hd:DmsOk x.sch ds) :
 (ds.map fun d=>(knwI x.sch ⟨pj,vr,ju x.sch (x.sch.cols.length-1),R⟩ i d.col d.lev).1)=lcD x.sch ds row:=by
 refine Ew fun d hdm=>?_;obtain⟨a,ha,rfl⟩:=CX hdm;have hpk:=zW (hd.pick a ha);have hk:=hd.kind a ha;have hcd:=hd.cd ha;generalize ds[a]=d at hpk hk hcd ⊢
 obtain⟨col,lev⟩:=d;dsimp only at hpk hk hcd ⊢
 obtain⟨c,rfl⟩:=AJ (show 0≤col by omega);obtain⟨e,rfl⟩:=AJ hpk.2.2.2.1;rw[Ax] at hk;have hlf:=zN1 hrow hcd;rw[Ax] at hlf ⊢
 have hc:c<x.sch.cols.length:=by omega
 have h0:0<c:=by omega
 have hh:=Wl hk ((qO hE).cdl hc hk).2 hlf;have hkn:=jW5 pj vr (yK hE) hi hR h0 hc hh;rw[jz9 h0 hc hE] at hkn;obtain⟨o,ho⟩:=AJ (zc7 hE h0 hc);have hT:=jz6 hE hc h0 (o:=o) (lev:=e) oM oM hh fun a b h1 h2 h3=>by
  have q1:=JJ hE h0 hc hk ((zU (qO hE) hc hk).1 h1);have q2:=JJ hE h0 hc hk ((zU (qO hE) hc hk).1 h2);rw[ho] at q1 q2;rw[q1,q2] at h3;rw[h3]
 unfold knwI;rw[hkn];dsimp only;rw[ho,hT];dsimp only;unfold qk;rw[Aq (by rw[qm4];omega),Ax,Aj hk,Aq (by rw[hh];simp)]
end Go.Proofs
