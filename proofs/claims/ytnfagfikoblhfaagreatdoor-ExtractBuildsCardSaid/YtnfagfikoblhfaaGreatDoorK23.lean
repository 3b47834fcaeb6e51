/- A part of the proof: trees of Go values, short forms, contracts. -/
import Derived.WalkKit
import Derived.Still
import Derived.MapKept
import GoSem.Builtin.Cap
import Derived.Laws.Externs
import GoSem.Extern.SlicesOverlaps
import Derived.Carry
import Derived.ProofKit
import Derived.OpenShut
import Derived.HandedShaped
import Derived.Lay
import Derived.LaidLaws
import Derived.MakeChecks
import Derived.SevenTiedAt
import Derived.Test.YtnfagfikoblhfaaGreatDoorChecked
import Derived.Test.YtnfagfikoblhfaaGreatDoorK22
set_option linter.unusedSimpArgs false
set_option linter.unusedVariables false
namespace Go.Proofs
open Go Go.TL
set_option maxRecDepth 4000
set_option maxHeartbeats 8000000
def mxc:List Pk→Int
 | []=>0
 | p::r=>max p.col (mxc r)
theorem jt4:∀ l:List Pk,0≤mxc l
 | []=>Int.le_refl _
 | p::r=>by have:=jt4 r;rw[mxc];omega
theorem zW6:∀ (l:List Pk) (p:Pk),mxc (l++[p])=max (mxc l) p.col
 | [],p=>by show max p.col 0=max 0 p.col;omega
 | q::r,p=>by rw[BW,mxc,mxc,zW6 r p];omega
theorem jK4 {n:Int} (hn:0≤n):∀ {l:List Pk},(∀ p∈l,p.col≤n)→mxc l≤n
 | [],_=>hn
 | p::r,h=>by
   have h1:=h p sMp;have h2:=jK4 hn (l:=r) fun q hq=>h q (CQ _ hq);rw[mxc];omega
theorem jK5:∀ {l:List Pk} {p:Pk},p∈l→p.col≤mxc l
 | q::r,p,h=>by
   rw[mxc];rcases Ck.1 h with e | h
   ·rw[e];omega
   ·have:=jK5 h;omega
theorem Ko (ls:List (List Pk)) (n:Nat) (h1:1≤n) (h2:n≤1000) (hls:ls.length≤1000) (hl:∀ l∈ls,l.length≤1000) (hb:∀ l∈ls,∀ p∈l,0≤p.col∧p.col<n) :
 Spc Tryz.prog 124 [.sl 1 (ls.map vPs)] [] (vPs (canF (fun k=>mxl ls.flatten k) n)) []:=by
 refine sIr qm7 fun e _ hst=>?_;unfold wI;refine sW ?_;refine qk mixm (α:=Nat×List (Int×Int)) [4,14] (fun y=>y.1≤ls.length∧∀ k,(TL.look TL.eqI k y.2).getD 0=mxl (ls.take y.1).flatten k) (fun y=>[(4,vI (mxc (ls.take y.1).flatten)),(14,vI y.1)]) (fun y=>[(8192,.mp (.ii y.2))]) (fun y=>ls.length-y.1) (0,[]) ⟨sMp,fun k=>rfl⟩ ?_ fun y hy=>?_
 ·exact .oA [(8192,some 8192)] []
 obtain⟨i,M⟩:=y;obtain⟨y1,y2⟩:=hy;dsimp only at y1 y2;refine sD ?_;refine⟨fun h=>?_,fun h=>?_⟩
 ·have hi:i<ls.length:=by omega
  have hwi:=qh (i:=i) oM;have hll:=hl _ (AX hi);have hbb:=hb _ (AX hi);have hfl:(ls.take (i+1)).flatten=(ls.take i).flatten++ls[i]:=by rw[qH hi,List.flatten_append];simp
  generalize (ls.take i).flatten=A at y2 hfl ⊢
  simp only[tZ,↓un_u,simprocAttr,Ax,qd hi];refine⟨oM,?_⟩;generalize ls[i]=l at hll hbb hfl ⊢
  refine qk mixm (α:=Nat×List (Int×Int)) [4,20] (fun y=>y.1≤l.length∧∀ k,(TL.look TL.eqI k y.2).getD 0=mxl (A++l.take y.1) k) (fun y=>[(4,vI (mxc (A++l.take y.1))),(20,vI y.1)]) (fun y=>[(8192,.mp (.ii y.2))]) (fun y=>l.length-y.1) (0,M) ⟨sMp,fun k=>by rw[List.take_zero,CW];exact y2 k⟩ ?_ fun y hy=>?_
  ·refine .of [(8192,some 8192)] [] rfl (by first | rfl | (rw[hst];rfl)) ?_ ?_
   all_goals (try simp only[tL,simprocAttr,By,List.map_cons,List.map_nil,BW,Cy,List.take_zero,CW])
   all_goals (try (repeat' (first | exact qZ | (apply zk;intro _;exact⟨rfl,rfl⟩) | (apply qA;intro _;exact⟨rfl,rfl⟩) | with_reducible apply qW | with_reducible refine qQ ⟨rfl,rfl⟩ ?_ | exact qY | with_reducible apply qR | with_reducible refine qX ⟨rfl,rfl,?_⟩ ?_ | with_reducible apply Az | exact qS rfl | exact qS (by assumption) | (refine⟨⟨?_,rfl,?_,rfl,?_⟩,trivial⟩ <;> first | (simp;done) | (apply qA;intro _;exact⟨rfl,rfl⟩)) | trivial | rfl | (rw[qh oM]) | omega)))
  obtain⟨j,N⟩:=y;obtain⟨z1,z2⟩:=hy;dsimp only at z1 z2;refine sD ?_;refine⟨fun h5=>?_,fun h5=>?_⟩
  ·have hj:j<l.length:=by omega
   have hwj:=qh (i:=j) oM;have hts:A++l.take (j+1)=A++l.take j++[l[j]]:=by rw[qH hj,Dj]
   have hnew:∀ k,(TL.look TL.eqI k (TL.asg TL.eqI l[j].col (max (mxl (A++l.take j) l[j].col) l[j].lev) N)).getD 0=mxl (A++l.take (j+1)) k:=fun k=>by
    rw[qs3,hts,jD2];by_cases e:k=l[j].col
    ·subst e;rw[Aj rfl,Aj rfl];rfl
    ·rw[Aq e,Aq (fun h=>e h.symm)];exact z2 k
   have hx:=zW6 (A++l.take j) l[j];rw[← hts] at hx;have hz:=z2 l[j].col;simp only[tZ,↓un_u,simprocAttr,Ax,qd hj,hwj,zD8,hz,← hx];refine⟨oM,kR,?_⟩;refine⟨(j+1,_),⟨by dsimp only;omega,hnew⟩,by dsimp only;omega,?_⟩;exact .oA [(8192,some 8192)] []
  ·have hjl:j=l.length:=by omega
   subst hjl;rw[Bw,← hfl] at z2 ⊢
   simp only[tZ,↓un_u,simprocAttr,hwi];refine⟨(i+1,N),⟨by dsimp only;omega,z2⟩,by dsimp only;omega,?_⟩;exact .oA [(8192,some 8192)] []
 ·have hil:i=ls.length:=by omega
  subst hil;rw[Bw] at y2 ⊢
  have hbf:∀ p∈ls.flatten,0≤p.col∧p.col<n:=fun p hp=>by
   obtain⟨l,hl,hpl⟩:=List.mem_flatten.1 hp;exact hb l hl p hpl
  have hml:=jK4 (n:=n-1) oM (l:=ls.flatten) fun p hp=>by have:=hbf p hp;omega
  have hmp:=jt4 ls.flatten;have hmore:canF (fun k=>mxl ls.flatten k) n=canF (fun k=>mxl ls.flatten k) ((mxc ls.flatten).toNat+1):=by
   rw[show n=(mxc ls.flatten).toNat+1+(n-((mxc ls.flatten).toNat+1)) by omega,zE1];intro k hk _;rw[YX fun p hp=>by have:=jK5 hp;omega];exact Int.le_refl _
  rw[hmore];obtain⟨c,hc⟩:=AJ hmp;rw[hc,Ax];have hwc:=qh (i:=c) oM;rw[hwc];generalize ls.flatten=A at y2 ⊢
  refine qk mixm (α:=Nat) [9,42] (fun k=>k≤c+1) (fun k=>[(9,.asl 1 (canF (fun k=>mxl A k) k).length),(42,vI k)]) (fun k=>[(8192,.mp (.ii M)),(1,.arr 2 ((canF (fun k=>mxl A k) k).map pkT) false)]) (fun k=>c+1-k) 0 oM ?_ fun k hk=>?_
  ·exact .oA [(8192,some 8192),(1,none)] []
  have hcl:=zq0 (fun k=>mxl A k) k;have hcs:canF (fun k=>mxl A k) (k+1)=canF (fun k=>mxl A k) k++(if 0<mxl A k then [⟨(k:Nat),mxl A k⟩] else []):=by rw[canF]
  have hz:=y2 k;refine sD ?_;refine⟨fun h5=>?_,fun h5=>?_⟩
  ·have hwk:=qh (i:=k) oM;simp only[tZ,↓un_u,simprocAttr,hz,hwk,gt_iff_lt,tD];refine⟨fun h6=>?_,fun h6=>?_⟩
   ·rw[Aj h6] at hcs;refine⟨oM,k+1,oM,oM,?_⟩;rw[hcs,By,AW];exact .oA [(8192,some 8192),(1,some 1)] []
   ·rw[Aq h6,CW] at hcs;refine⟨k+1,oM,oM,?_⟩;rw[hcs];exact .oA [(8192,some 8192),(1,some 1)] []
  ·rw[show k=c+1 by omega];exact .oA [] [1]
theorem jt5 {s:Sch} {q:Qst} (hq:QstOk s q):∀ d∈q.dims,kI s d=0∧isB s d.col 2=true:=fun d hd=>by
 by_cases h1:q.kind=1
 ·have h2:=(hq.dims h1).1;unfold Zv at h2;split at h2
  ·cases h2
  obtain⟨i,hi,rfl⟩:=CX hd;have h3:=yF h2 i hi;have hp:pkAt q.dims i=q.dims[i]:=by rw[pkAt,qg hi]
  unfold dimE at h3;rw[hp] at h3;split at h3
  ·rename_i h4;exact absurd h3 h4
  rename_i h4;split at h3
  ·cases h3
  rename_i h5;exact⟨AQ h4,by simpa using h5⟩
 ·rw[hq.d0 h1] at hd;simp at hd
theorem jK6 {s:Sch} {q:Qst} (hq:QstOk s q):∀ c∈cnsL q,chkC s c=0:=fun c hc=>by
 unfold cnsL at hc;split at hc
 ·rename_i h;rcases Ck.1 hc with e | hc
  ·rw[e];exact hq.filt
  ·rw[Ey.1 hc];exact (hq.event h).2.2
 ·rw[Ey.1 hc];exact hq.filt
theorem jP6 {s:Sch} {q:Qst} {n:Nat} {p:Pk}:p∈usP s q n↔∃ k:Nat,k<n∧usB q k=true∧p=⟨k,jX s k (finI s k)⟩:=by
 unfold usP;simp only[Cj,Fz,Dk];constructor
 ·rintro ⟨k,⟨h1,h2⟩,rfl⟩;exact⟨k,h1,h2,rfl⟩
 ·rintro ⟨k,h1,h2,rfl⟩;exact⟨k,⟨h1,h2⟩,rfl⟩
theorem jP7 (s:Sch) (q:Qst) (n:Nat):(usP s q n).length≤n:=by
 unfold usP;rw[BY];have:=Fx (fun k:Nat=>usB q k) (List.range n);rw[List.length_range] at this;exact this
def zK6 (s:Sch) (q:Qst):List Pk:=dmP s q++usP s q s.cols.length++(cnsL q).flatMap (zR s)
theorem zq3 {s:Sch} {q:Qst} (hq:QstOk s q):∀ p∈zK6 s q,1≤p.col∧p.col<s.cols.length:=fun p hp=>by
 unfold zK6 at hp;rcases Dz.1 hp with hp | hp
 ·rcases Dz.1 hp with hp | hp
  ·obtain⟨d,hd,rfl⟩:=Cj.1 hp;obtain⟨_,h1,h2,_⟩:=YQ (jt5 hq d hd).1;exact⟨h1,h2⟩
  ·obtain⟨k,h1,h2,rfl⟩:=jP6.1 hp;unfold usB at h2;rw[Bq,AZ] at h2;exact⟨by dsimp only;omega,by dsimp only;omega⟩
 ·obtain⟨c,hc,hp⟩:=Ek.1 hp;exact jD3 (jK6 hq c hc) p hp
theorem qz0 {s:Sch} {q:Qst} (h:qstE s q=0):kK s q=canF (fun k=>mxl (zK6 s q) k) s.cols.length:=by
 have hq:=qx8 h;have hb:=zq3 hq;obtain⟨n1,n2⟩:=qy9 hq.filt;rw[zK5 h,n1,qy8 _ (fun k=>qi9 _ _) fun p hp=>?_]
 ·refine Km fun k _=>?_;rw[← jt3 hq.filt k];have e:(cnsL q).flatMap (zR s)=zR s q.filt++evP s q:=by
   unfold cnsL evP;split <;> simp
  rw[zK6,e];simp only[zq1];omega
 ·have:p∈zK6 s q:=by
   unfold zK6;have e:(cnsL q).flatMap (zR s)=zR s q.filt++evP s q:=by
    unfold cnsL evP;split <;> simp
   rw[e];simp only[Dz] at hp ⊢
   rcases hp with (h | h) | h
   ·exact .inr (.inr h)
   ·exact .inl (.inl h)
   ·exact .inl (.inr h)
  have:=hb p this;omega
theorem qz1 (s:Sch) (hs:jI s) (q:Qst):Spc Tryz.prog 73 [schT s,qstT q] [] (vPs (kK s q)) []:=by
 refine yi [15] ql9 mixm sMp fun e _ hst=>yV ?_;unfold wE;simp only[JV,List.contains_cons,List.contains_nil,Nat.reduceBEq,Bool.or_false,Bool.or_true,Bool.true_or,Bool.false_or,cond_true,cond_false];refine sW ?_;refine C1.im (ye s hs q) rF rF ?_;simp only[tZ,↓un_u,simprocAttr,Bj,Aw];refine⟨fun h=>?_,fun h=>?_⟩
 ·rw[kK,Aj h];exact .oA [] []
 have hq:=qx8 h;have hok:=qV hq.sch;have hnc:=hok.nc;have hnd:=hq.nd;have hnt:=hq.nt;have hck:=jK6 hq;have hcl:(cnsL q).length≤2:=by unfold cnsL;split <;> simp
 have hdl:(dmP s q).length=q.dims.length:=BY _;have hbd:=zq3 hq;refine qk mixm (α:=Nat) [5,19] (fun i=>i≤q.dims.length) (fun i=>[(5,.asl 1 ((dmP s q).take i).length),(19,vI i)]) (fun i=>[(4096,.arr 2 [schT s] false),(4100,.arr 17 [qstT q] false),(1,.arr 2 (((dmP s q).take i).map pkT) false)]) (fun i=>q.dims.length-i) 0 oM ?_ fun i hi=>?_
 ·exact .oA [(4096,some 4096),(4100,some 4100),(1,none)] []
 refine sD ?_;refine⟨fun h3=>?_,fun h3=>?_⟩
 ·have hi2:i<q.dims.length:=by omega
  have hwi:=qh (i:=i) oM;have hts:(dmP s q).take (i+1)=(dmP s q).take i++[⟨q.dims[i].col,jX s q.dims[i].col q.dims[i].lev⟩]:=by
   rw[qH oM];simp only[dmP,Fj]
  have hLe:=qd9 s hs q.dims[i].col q.dims[i].lev;have htl:((dmP s q).take i).length≤3:=by rw[Cz];omega
  simp only[tZ,↓un_u,simprocAttr,Ax,qd hi2];refine⟨oM,?_⟩;refine C1.im hLe rF rF ?_;simp only[tZ,↓un_u,simprocAttr,hwi];refine⟨oM,kR,i+1,oM,oM,?_⟩;rw[hts,By,AW];exact .oA [(4096,some 4096),(4100,some 4100),(1,some 1)] []
 ·have hil:i=q.dims.length:=by omega
  subst hil;rw[← hdl,Bw];refine qk mixm (α:=Nat) [5,39] (fun i=>i≤s.cols.length) (fun i=>[(5,.asl 1 (dmP s q++usP s q i).length),(39,vI i)]) (fun i=>[(4096,.arr 2 [schT s] false),(4100,.arr 17 [qstT q] false),(1,.arr 2 ((dmP s q++usP s q i).map pkT) false)]) (fun i=>s.cols.length-i) 0 oM ?_ fun i hi=>?_
  ·rw[show usP s q 0=[] from rfl,CW];exact .oA [(4096,some 4096),(4100,some 4100),(1,some 1)] []
  have hul:=jP7 s q i;have hus:=zq2 s q i;have hoL:(dmP s q++usP s q i).length≤1000000:=by rw[AW];omega
  refine sD ?_;refine⟨fun h3=>?_,fun h3=>?_⟩
  ·have hi2:i<s.cols.length:=by omega
   have hwi:=qh (i:=i) oM;refine C1.im (qG7 q i oM) rF rF ?_;refine sW ?_;refine⟨fun h4=>?_,fun h4=>?_⟩
   ·rw[Aj h4] at hus;refine C1.im (ZB s hs i) rF rF ?_;refine sW ?_;refine C1.im (qd9 s hs i (finI s i)) rF rF ?_;simp only[tZ,↓un_u,simprocAttr,hwi];refine⟨oM,kR,i+1,oM,oM,?_⟩;rw[hus,← Dj,By,AW (bs:=[_])];exact .oA [(4096,some 4096),(4100,some 4100),(1,some 1)] []
   ·rw[Aq (by rw[h4];simp),CW] at hus;simp only[tZ,↓un_u,simprocAttr,hwi];refine⟨i+1,oM,oM,?_⟩;rw[hus];exact .oA [(4096,some 4096),(4100,some 4100),(1,some 1)] []
  ·have hil:i=s.cols.length:=by omega
   subst hil;rw[qz0 h];unfold zK6 at hbd ⊢
   have hll:(dmP s q++usP s q s.cols.length).length=(dmP s q).length+(usP s q s.cols.length).length:=AW;generalize dmP s q++usP s q s.cols.length=own at hoL hbd hll ⊢
   refine W_le [(2,.ptr 4096 1 0 0),(3,.ptr 4100 1 0 0),(5,vPs own)] [(4096,.arr 2 [schT s] false),(4100,.arr 17 [qstT q] false)] ?_ ?_
   ·exact .oA [(4096,some 4096),(4100,some 4100)] [1]
   refine sW ?_;refine C1.im (qy7 q) rF rF ?_;generalize cnsL q=L at hck hcl hbd ⊢
   refine sW ?_;refine qk mixm (α:=Nat) [9,62] (fun i=>i≤L.length) (fun i=>[(9,.asl 65540 (i+1)),(62,vI i)]) (fun i=>[(4096,.arr 2 [schT s] false),(65540,.arr 1 (vPs own::(L.take i).map fun c=>vPs (zR s c)) false)]) (fun i=>L.length-i) 0 oM ?_ fun i hi=>?_
   ·exact .oA [(4096,some 4096),(65540,some 65540)] []
   have htl:(L.take i).length=i:=by rw[Cz];omega
   refine sD ?_;refine⟨fun h3=>?_,fun h3=>?_⟩
   ·have hi2:i<L.length:=by omega
    have hwi:=qh (i:=i) oM;have hN:=qy6 s hs L[i];simp only[tZ,↓un_u,simprocAttr,Ax,qd hi2,zh];refine⟨oM,?_⟩;refine C1.im hN rF rF ?_;simp only[tZ,↓un_u,simprocAttr,hwi];refine⟨oM,i+1,oM,oM,?_⟩;rw[qH hi2,By];exact .oA [(4096,some 4096),(65540,some 65540)] []
   ·have hil:i=L.length:=by omega
    subst hil;rw[Bw];have hfl:(own::L.map (zR s)).flatten=own++L.flatMap (zR s):=by rw[List.flatten_cons,List.flatMap_def]
    have hbb:∀ l∈own::L.map (zR s),∀ p∈l,0≤p.col∧p.col<s.cols.length:=fun l hl p hp=>by
     have:=hbd p (by rw[← hfl];exact List.mem_flatten.2 ⟨l,hl,hp⟩);omega
    have hbl:∀ l∈own::L.map (zR s),l.length≤1000:=fun l hl=>by
     rcases Ck.1 hl with e | hl
     ·rw[e];omega
     ·obtain⟨c,_,rfl⟩:=Cj.1 hl;have:=Yv s c;omega
    have hM:=Ko (own::L.map (zR s)) s.cols.length oM oM (by rw[CJ,BY];omega) hbl hbb;rw[hfl,List.map_cons,Gz] at hM;refine C1.shut [65540] hM ?_ rF rfl ?_
    ·all_goals (try exact clA)
    refine sW ?_;exact .oA [] []
end Go.Proofs
namespace Go.Proofs
open Go Go.TL
set_option maxRecDepth 4000
set_option maxHeartbeats 8000000
theorem jt6 {s:Sch} {l:List Pk} (hE:schE s=0) (h1:∀ p∈l,kI s p=0) (h2:l.Pairwise fun a b=>a.col<b.col):kp s l=0:=by
 rw[kp,Aq (by rw[hE];simp)];refine Kh fun i hi=>?_;have hp:pkAt l i=l[i]:=by rw[pkAt,qg hi]
 rw[qp6,hp,Aq (by rw[h1 _ (AX hi)];simp),Aq];rintro ⟨h3,h4⟩;rw[pkAt,qg oM] at h4;have:=DX.1 h2 (i-1) i oM hi oM;omega
theorem qs6 (s:Sch) (hd:DrS s) (l:List UInt8) (a:Nat) (hl:l.length≤400) (ha:a≤l.length) :
 ∃ r:List Pk×Nat,((kp s r.1=0∧r.1.length≤8)∧r.2≤l.length)∧Spc Tryz.prog 13 [.ptr 0 1 0 0,schT s] [(0,oC l a)] (vPs r.1) [(0,oC l r.2)]:=by
 have hE:=hd.ok;have hok:=qV hE;have hnc:=hok.nc;refine zw qf1 mixm (fun r:List Pk×Nat=>vPs r.1) (fun r=>[(0,oC l r.2)]) sMp ?_;unfold kQ;refine sW ?_;refine XE.loopF mixm [5,6] (fun y:Nat×List Pk×Nat=>1≤y.1∧y.1≤s.cols.length∧y.2.1.length<y.1∧(∀ p∈y.2.1,kI s p=0∧p.col<y.1)∧y.2.1.Pairwise (fun a b=>a.col<b.col)∧y.2.2≤l.length) (fun y=>[(5,.asl 1 y.2.1.length),(6,vI y.1)]) (fun y=>[(0,oC l y.2.2),(4096,.arr 2 [schT s] false),(1,.arr 2 (y.2.1.map pkT) false)]) (fun y=>s.cols.length-y.1) (1,[],a) ⟨sMp,by dsimp only;omega,sMp,sMp,List.Pairwise.nil,ha⟩ (fun e ⟨_,hst⟩=>?_) fun T' y hy ih=>?_
 ·exact .oA [(0,some 0),(4096,some 4096),(1,none)] []
 obtain⟨i,ps,a1⟩:=y;obtain⟨y1,y2,y3,y4,y5,y6⟩:=hy;dsimp only at y1 y2 y3 y4 y5 y6;simp only[tZ,↓un_u,simprocAttr,AZ,Ay];refine XE.brN (fun h4=>?_) (fun h4=>?_)
 ·have hi2:i<s.cols.length:=by omega
  have hwi:=qh (i:=i) oM;obtain⟨v,a2,v1,v2,ha2,sN⟩:=jZ l a1 4 hl y6 oM;refine XE.mp (fun _ _=>C1.draw 0 l a1 _ sN rfl rfl rfl) ?_;simp only[tZ,↓un_u,simprocAttr,gt_iff_lt,AZ,Ay];refine XE.brN (fun h5=>?_) (fun h5=>?_)
  ·have hkk:=za (hok.cs i hi2);obtain⟨f1,f2⟩:0≤finI s i∧finI s i≤59:=by
    have h23:=hkk.2.2.1 y1;refine (zK0 hE (v:=i) ?_).2.2;rcases (show (qj s i).kind=2∨(qj s i).kind=3 by omega) with h | h
    ·exact .inl (zl.2 ⟨oM,oM,by rw[Ax];exact h⟩)
    ·exact .inr (zl.2 ⟨oM,oM,by rw[Ax];exact h⟩)
   have hFin:=jh s hok.sm i;obtain⟨w,a3,w1,w2,ha3,sQ⟩:=jZ l a2 (finI s i+1) hl ha2 oM;have hwf:IntKind.i64.wrap (finI s i+1)=finI s i+1:=AK _ oM;refine XE.mp (fun _ _=>C1.im hFin rF rF) ?_;simp only[tZ,↓un_u,simprocAttr,hwf];refine XE.mp (fun _ _=>C1.draw 0 l a2 _ sQ rfl rfl rfl) ?_;simp only[tZ,↓un_u,simprocAttr,hwi];refine XE.sd oM ?_;refine XE.next ih (i+1,ps++[⟨i,w⟩],a3) ⟨by dsimp only;omega,by dsimp only;omega,by rw[AW];simp;omega,fun p hp=>?_,?_,ha3⟩ (by dsimp only;omega) fun e ⟨_,hst⟩=>?_
   ·dsimp only at hp ⊢
    rcases Dz.1 hp with hp | hp
    ·have:=y4 p hp;exact⟨this.1,oM⟩
    ·rw[Ey.1 hp];refine⟨?_,by dsimp only;omega⟩;rw[kI,Aq (by rw[hE];simp),Aq (by dsimp only;omega),Aq];rw[Ez,Qy];dsimp only;omega
   ·dsimp only;rw[List.pairwise_append];refine⟨y5,sMp,fun p hp q hq=>?_⟩;rw[Ey.1 hq];exact (y4 p hp).2
   ·exact .oA [(0,some 0),(4096,some 4096),(1,some 1)] []
  ·simp only[tZ,↓un_u,simprocAttr,hwi];refine XE.next ih (i+1,ps,a2) ⟨by dsimp only;omega,by dsimp only;omega,by dsimp only;omega,fun p hp=>?_,y5,ha2⟩ (by dsimp only;omega) fun e ⟨_,hst⟩=>?_
   ·have:=y4 p hp;exact⟨this.1,by dsimp only;omega⟩
   ·exact .oA [(0,some 0),(4096,some 4096),(1,some 1)] []
 ·refine XE.fin (ps,a1) ⟨⟨jt6 hE (fun p hp=>(y4 p hp).1) y5,by dsimp only;omega⟩,y6⟩ fun e ⟨_,hst⟩=>?_;exact .oA [(0,some 0)] [1]
end Go.Proofs
namespace Go.Proofs
open Go Go.TL
set_option maxRecDepth 4000
set_option maxHeartbeats 8000000
theorem jP8 {s:Sch} (hE:schE s=0) {k:Nat} (h1:1≤k) (h2:k<s.cols.length):0≤finI s k:=by
 have hok:=qV hE;have hkk:=za (hok.cs k h2);have h3:=hkk.2.2.1 h1;refine (zK0 hE (v:=k) ?_).2.2.1;rcases (show (qj s k).kind=2∨(qj s k).kind=3 by omega) with h | h
 ·exact .inl (zl.2 ⟨oM,oM,by rw[Ax];exact h⟩)
 ·exact .inr (zl.2 ⟨oM,oM,by rw[Ax];exact h⟩)
end Go.Proofs
namespace Go.Proofs
open Go Go.TL
set_option maxRecDepth 4000
set_option maxHeartbeats 8000000
structure MeasC (s:Sch) (i:Nat):Prop where
 kind:(qj s i).kind=3
 fin:finI s i=(qj s i).widths.length
 wid:∀ l:Nat,1≤l→l≤(qj s i).widths.length→1≤qE (qj s i) l
 one:qE (qj s i) (qj s i).widths.length=1
 lh : -1000000≤(qj s i).low∧(qj s i).low≤(qj s i).high∧(qj s i).high≤1000000
 nw:1≤(qj s i).widths.length
 dv:∀ {o l:Nat},1≤o→o<l→l≤(qj s i).widths.length→∃ k:Int,2≤k∧qE (qj s i) o=k*qE (qj s i) l
end Go.Proofs
namespace Go.Proofs
open Go Go.TL
set_option maxRecDepth 4000
set_option maxHeartbeats 8000000
end Go.Proofs
namespace Go.Proofs
open Go Go.TL
set_option maxRecDepth 4000
set_option maxHeartbeats 8000000
theorem jK7:∀ {l:List Pk} {p:Pk},p∈l→p.lev≤mxl l p.col
 | q::r,p,h=>by
   rw[mxl];rcases Ck.1 h with e | h
   ·subst e;rw[Aj rfl];omega
   ·have:=jK7 h;split <;> omega
theorem zK7:∀ {l:List Pk} {k:Int},0<mxl l k→∃ p∈l,p.col=k∧p.lev=mxl l k
 | [],k,h=>by rw[mxl] at h;omega
 | p::r,k,h=>by
   rw[mxl] at h ⊢
   by_cases e:p.col=k
   ·rw[Aj e] at h ⊢
    by_cases h2:mxl r k≤p.lev
    ·exact⟨p,sMp,e,oM⟩
    ·obtain⟨x,h3,h4,h5⟩:=zK7 (l:=r) (k:=k) oM;exact⟨x,CQ _ h3,h4,oM⟩
   ·rw[Aq e] at h ⊢
    obtain⟨x,h3,h4,h5⟩:=zK7 (l:=r) (k:=k) h;exact⟨x,CQ _ h3,h4,h5⟩
end Go.Proofs
namespace Go.Proofs
open Go Go.TL
set_option maxRecDepth 4000
set_option maxHeartbeats 8000000
theorem YB (x y:Qst):Spc Tryz.prog 123 [qstT x,.ip (qstT y).cells] [] (vB (eqB x.name y.name)) []:=by
 refine sIr Wt fun e _ hst=>?_;unfold jF;refine sW ?_;rw[show (x.name.toList==y.name.toList)=eqB x.name y.name from rfl];exact .oA [] []
theorem ZE (p:Qst→Bool) (f:FuncId) (caps:List T) (hcap:imL caps=true) (l:List Qst) (hf:∀ y∈l,Spc Tryz.prog f (qstT y::caps) [] (vB (p y)) []) (hl:l.length<4611686018427387904) :
 Spc Tryz.prog 187 [.sl 17 (l.map qstT),.clo f caps] [] (vI (idxI p l)) []:=by
 refine sIr QG fun e _ hst=>?_;unfold zH;refine sW ?_;refine qk mixm (α:=Nat) [8] (fun i=>i≤l.length∧((l.take i).any p=false)) (fun i=>[(8,vI i)]) (fun i=>[]) (fun i=>l.length-i) 0 ⟨oM,?_⟩ ?_ fun i hi=>?_
 ·simp
 ·exact .oA [] []
 simp only[tZ,↓un_u,simprocAttr,AZ,Ay];refine⟨fun h=>?_,fun h=>?_⟩
 ·have hi2:i<l.length:=by omega
  have hwi:=qh (i:=i) oM;simp only[tZ,↓un_u,simprocAttr,Ax,qd hi2,hwi,qe6];refine⟨oM,?_⟩;refine C1.im (hf l[i] (AX hi2)) (JW rfl hcap) rfl ?_;refine sW ?_;refine⟨fun h3=>?_,fun h3=>⟨i+1,⟨oM,jr hi2 hi.2 h3⟩,oM,?_⟩⟩
  ·rw[idxI,Aj (zf0 hi2 h3),wm hi2 hi.2 h3];exact .imR rfl rfl
  ·exact .oA [] []
 ·have h2:i=l.length:=by omega
  have h3:=hi.2;rw[h2,Bw] at h3;rw[idxI,Aq (by rw[h3];simp)];exact .imR rfl rfl
theorem yT (p:Qst→Bool) (f:FuncId) (caps:List T) (hcap:imL caps=true) (l:List Qst) (hf:∀ y∈l,Spc Tryz.prog f (qstT y::caps) [] (vB (p y)) []) (hl:l.length<4611686018427387904) :
 Spc Tryz.prog 122 [.sl 17 (l.map qstT),.clo f caps] [] (vB (l.any p)) []:=by
 refine sIr yu fun e _ hst=>?_;unfold zq;refine sW ?_;refine C1.im (ZE p f caps hcap l hf hl) (yL rfl hcap) rfl ?_;refine sW ?_;rw[show decide (idxI p l≥0)=l.any p from qL6 p l];exact .imR rfl rfl
theorem ZF (s:Sch) (hs:jI s) (d:Dcl):Spc Tryz.prog 59 [schT s,dclT d] [] (vI (dclE s d)) []:=by
 refine sIr qa8 fun e _ hst=>?_;unfold kz;refine sW ?_;refine C1.im (zK s hs.2.1 hs.1) rF rF ?_;simp only[tZ,↓un_u,simprocAttr,Bj,Aw];refine⟨fun h=>?_,fun h=>?_⟩
 ·rw[dclE,Aj h];exact .oA [] []
 rw[dclE,Aq (by rw[h];simp)];refine C1.im (ka d.proj) rF rF ?_;refine sW ?_;refine C2.im (fun _=>ka d.src) (fun _=>rfl) rF ?_;simp only[tZ,↓un_u,simprocAttr,tD,Bx,Bz];refine⟨fun h2=>?_,fun h2=>?_⟩
 ·rw[Aj h2];exact .oA [] []
 rw[Aq (by rw[h2.1,h2.2];simp)];refine C1.im (jq s hs d.coh) rF rF ?_;simp only[tZ,↓un_u,simprocAttr,Bj,Aw];refine⟨fun h3=>?_,fun h3=>?_⟩
 ·rw[Aj h3];exact .oA [] []
 rw[Aq (by rw[h3];simp)];simp only[tZ,↓un_u,simprocAttr,tD,gt_iff_lt,AY,Ak];refine⟨fun h4=>?_,fun h4=>?_⟩
 ·have:smpE d.smp≠0:=by rw[smpE,Aj oM];simp
  rw[Aj this];exact .oA [] []
 have h5:smpE d.smp=0:=by rw[smpE,Aq oM]
 rw[Aq (by rw[h5];simp)];refine⟨fun h6=>?_,fun h6=>?_⟩
 ·rw[Aj oM];exact .oA [] []
 rw[Aq oM];generalize hE:zm (qsE s d.qs) d.qs.length=E;refine qk mixm (α:=Nat) [80] (fun i=>i≤d.qs.length∧(zm (qsE s d.qs) i=0)) (fun i=>[(80,vI i)]) (fun i=>[(4096,.arr 2 [schT s] false),(4100,.arr 12 [dclT d] false)]) (fun i=>d.qs.length-i) 0 ⟨oM,?_⟩ ?_ fun i hi=>?_
 ·rfl
 ·exact .oA [(4096,some 4096),(4100,some 4100)] []
 simp only[tZ,↓un_u,simprocAttr,AZ,Ay];refine⟨fun h=>?_,fun h=>?_⟩
 ·have hi2:i<d.qs.length:=by omega
  have hpi:qAt d.qs i=d.qs[i]:=by rw[qAt,qg hi2]
  have hstep:=jy hi.2 hi2;have hnext:=zC hi.2;have hA:qsE s d.qs i=if qstE s d.qs[i]≠0 then qstE s d.qs[i] else if ((d.qs.take i).any fun x=>eqB x.name d.qs[i].name)=true then 10 else 0:=by rw[qsE,hpi]
  rw[hE] at hstep;have hQ:=ye s hs d.qs[i];have hCF:=yT (fun x=>eqB x.name d.qs[i].name) 123 [.ip (qstT d.qs[i]).cells] rfl (d.qs.take i) (fun x _=>YB x d.qs[i]) (by rw[Cz];omega);have hi2:i<d.qs.length:=by omega
  have hwi:=qh (i:=i) oM;simp only[tZ,↓un_u,simprocAttr,Ax,qd hi2,hwi];refine⟨oM,?_⟩;refine C1.im hQ rF rF ?_;simp only[tZ,↓un_u,simprocAttr,Bj,Aw];refine⟨fun h7=>?_,fun h7=>?_⟩
  ·rw[Aj h7] at hA;rw[hstep (by rw[hA];exact h7),hA];exact .oA [] []
  rw[Aq (by rw[h7];simp)] at hA;refine⟨oM,?_⟩;rw[WO,qL5];refine C1.lend [69644] hCF ?_ rF rF ?_
  ·all_goals (try simp only[tL,simprocAttr,By,List.map_cons,List.map_nil,BW,Cy])
   all_goals (try (repeat' (first | exact qZ | (apply zk;intro _;exact⟨rfl,rfl⟩) | (apply qA;intro _;exact⟨rfl,rfl⟩) | with_reducible apply qW | with_reducible refine qQ ⟨rfl,rfl⟩ ?_ | exact qY | with_reducible apply qR | with_reducible refine qX ⟨rfl,rfl,?_⟩ ?_ | with_reducible apply Az | exact qS rfl | exact qS (by assumption) | (refine⟨⟨?_,rfl,?_,rfl,?_⟩,trivial⟩ <;> first | (simp;done) | (apply qA;intro _;exact⟨rfl,rfl⟩)) | trivial | rfl | (rw[qh oM]) | omega)))
   simp only[ltP];exact⟨rfl,by decide,rfl,qQ ⟨rfl,rfl⟩ qY⟩
  simp only[tZ,↓un_u,simprocAttr,hwi];refine⟨fun h8=>?_,fun h8=>?_⟩
  ·rw[Aj h8] at hA;rw[hstep (by rw[hA];simp),hA];exact .oA [] []
  ·rw[Aq (by rw[h8];simp)] at hA;refine⟨i+1,⟨oM,by rw[hnext,hA]⟩,oM,?_⟩;exact .oA [(4096,some 4096),(4100,some 4100)] []
 ·have hi2:i=d.qs.length:=by omega
  subst hi2;rw[← hE,hi.2];exact .oA [] []
def jt7 (s:Sch) (qs:List Qst):List Pk:=qs.flatMap (kK s)
theorem zq4 {s:Sch} (q:Qst):∀ p∈kK s q,1≤p.col∧p.col<s.cols.length:=fun p hp=>by
 by_cases h:qstE s q=0
 ·have hq:=qx8 h;rw[qz0 h] at hp;obtain⟨k,k1,k2,rfl⟩:=YW.1 hp;refine⟨?_,by dsimp only;omega⟩;dsimp only;rcases DQ k with e | e
  ·subst e;rw[YX fun q' hq'=>by have:=zq3 hq q' hq';omega] at k2;omega
  ·omega
 ·rw[kK,Aj h] at hp;simp at hp
theorem zg3 {s:Sch} {d:Dcl} (h:dclE s d=0):qx0 s d=canF (fun k=>mxl (jt7 s d.qs) k) s.cols.length:=by
 rw[qx0,Aq (by rw[h];simp)];have key:∀ qs:List Qst,∀ l,qs.foldl (fun l q=>wu l (kK s q)) l=wu l (jt7 s qs):=by
  intro qs
  induction qs with
  | nil=>intro l;rfl
  | cons q r ih=>
    intro l;rw[Dw,ih,← qs5];rfl
 rw[key];refine zE3 fun p hp=>?_;obtain⟨q,hq,hp⟩:=Ek.1 hp;have:=zq4 q p hp;omega
theorem qS4 (s:Sch) (hs:jI s) (d:Dcl) (h:dclE s d=0):Spc Tryz.prog 60 [schT s,dclT d] [] (vPs (qx0 s d)) []:=by
 obtain⟨hE,_,_,_,_,hq1,hq2,_⟩:=qw9 h;have hnc:=(qV hE).nc;rw[zg3 h,jt7,List.flatMap_def];have hbl:∀ l∈d.qs.map (kK s),l.length≤1000:=fun l hl=>by
  obtain⟨q,_,rfl⟩:=Cj.1 hl;have:=qq2 s q;omega
 have hbb:∀ l∈d.qs.map (kK s),∀ p∈l,0≤p.col∧p.col<s.cols.length:=fun l hl p hp=>by
  obtain⟨q,_,rfl⟩:=Cj.1 hl;have:=zq4 q p hp;omega
 have hM:=Ko (d.qs.map (kK s)) s.cols.length oM oM (by rw[BY];omega) hbl hbb;refine sIr qC5 fun e _ hst=>?_;unfold yY;refine sW ?_;refine qk mixm (α:=Nat) [5,11] (fun i=>i≤d.qs.length) (fun i=>[(5,.asl 1 i),(11,vI i)]) (fun i=>[(4096,.arr 2 [schT s] false),(1,.arr 1 ((d.qs.take i).map fun q=>vPs (kK s q)) false)]) (fun i=>d.qs.length-i) 0 oM ?_ fun i hi=>?_
 ·exact .oA [(4096,some 4096),(1,none)] []
 have htl:(d.qs.take i).length=i:=by rw[Cz];omega
 refine sD ?_;refine⟨fun h3=>?_,fun h3=>?_⟩
 ·have hi2:i<d.qs.length:=by omega
  have hwi:=qh (i:=i) oM;have hN:=qz1 s hs d.qs[i];simp only[tZ,↓un_u,simprocAttr,Ax,qd hi2];refine⟨oM,?_⟩;refine C1.im hN rF rF ?_;simp only[tZ,↓un_u,simprocAttr,hwi];refine⟨oM,i+1,oM,oM,?_⟩;rw[qH hi2,By];exact .oA [(4096,some 4096),(1,some 1)] []
 ·have hil:i=d.qs.length:=by omega
  subst hil;rw[Bw];rw[Gz] at hM;refine C1.shut [1] hM ?_ rF rfl ?_
  ·all_goals (try exact clA)
  refine sW ?_;exact .oA [] []
theorem qz2 (a b:List Pk) (ha:a.length<4611686018427387904) (hb:b.length<4611686018427387904):Spc Tryz.prog 19 [vPs a,vPs b] [] (vB (covB a b)) []:=by
 refine sIr ql2 fun e _ hst=>?_;unfold wB;refine sW ?_;refine C1.im (qs4 b a hb ha) rF rF ?_;refine sW ?_;exact .oA [] []
theorem zq5 {a b:List Pk}:covB a b=true↔∀ x∈a,∃ y∈b,y.col=x.col∧x.lev≤y.lev:=by
 unfold covB;simp only[Bk,DJ,Bq,AY,AZ]
theorem jt8 {s:Sch} {d:Dcl} (h:dclE s d=0) (l:List Pk) (hl:l.Pairwise fun a b=>a.col<b.col):covB (qx0 s d) l=d.qs.all fun q=>covB (kK s q) l:=by
 rw[Bool.eq_iff_iff,zq5,Bk,zg3 h];constructor
 ·intro H q hq;rw[zq5];intro x hx;have hb:=zq4 q x hx;have hm:x∈jt7 s d.qs:=Ek.2 ⟨q,hq,hx⟩;have hge:=jK7 hm;obtain⟨k,hk⟩:=AJ (show 0≤x.col by omega);rw[hk] at hge;have hx0:0<x.lev:=by
   by_cases hq0:qstE s q=0
   ·rw[qz0 hq0] at hx;obtain⟨_,_,k2,rfl⟩:=YW.1 hx;exact k2
   ·rw[kK,Aj hq0] at hx;simp at hx
  obtain⟨y,hy,e1,e2⟩:=H ⟨k,mxl (jt7 s d.qs) k⟩ (YW.2 ⟨k,oM,oM,rfl⟩);exact⟨y,hy,by rw[e1,hk],by dsimp only at e2;omega⟩
 ·intro H x hx;obtain⟨k,k1,k2,rfl⟩:=YW.1 hx;obtain⟨p,hp,e1,e2⟩:=zK7 k2;obtain⟨q,hq,hp2⟩:=Ek.1 hp;obtain⟨y,hy,e3,e4⟩:=zq5.1 (H q hq) p hp2;exact⟨y,hy,by rw[e3,e1],by dsimp only;omega⟩
theorem jD4 {s:Sch} {d:Dcl} (h:dclE s d=0) {l:List Pk} (hl:kp s l=0):qF9 s d l=if covB (qx0 s d) l=true then 0 else 23:=by
 obtain⟨_,_,hasc⟩:=Yq hl;obtain⟨_,_,_,_,_,_,_,hqs⟩:=qw9 h;rw[qF9,Aq (by rw[h];simp),Aq (by rw[hl];simp),jt8 h l hasc];have hs:∀ i,i<d.qs.length→sufB s (qAt d.qs i) l=covB (kK s (qAt d.qs i)) l:=fun i hi=>by
  rw[sufB,hqs i hi,hl];simp
 by_cases hall:(d.qs.all fun q=>covB (kK s q) l)=true
 ·rw[Aj hall];refine Kh fun i hi=>?_;have:=Bk.1 hall (qAt d.qs i) (by rw[qAt,qg hi];exact AX _);rw[hs i hi,this];rfl
 ·rw[Aq hall];refine AQ fun hne=>hall ?_;rw[Bk];intro q hq;obtain⟨i,hi,rfl⟩:=CX hq;have key:∀ n,n≤d.qs.length→(zm (fun i=>if sufB s (qAt d.qs i) l=true then 0 else 23) n=0∨zm (fun i=>if sufB s (qAt d.qs i) l=true then 0 else 23) n=23):=by
   intro n
   induction n with
   | zero=>intro _;exact .inl rfl
   | succ n ih=>
     intro hn;rw[zm];rcases ih oM with e | e
     ·rw[Aq (by rw[e];simp)];split <;> simp
     ·rw[Aj (by rw[e];simp)];exact .inr e
  have h0:=(key _ (BZ _)).resolve_right hne;have:=yF h0 i hi;rw[hs i hi,qAt,qg hi] at this;by_cases e:covB (kK s d.qs[i]) l=true
  ·exact e
  ·rw[Aq e] at this;cases this
theorem qG8 (s:Sch) (hs:jI s) (d:Dcl) (l:List Pk) (hl:l.length<4611686018427387904):Spc Tryz.prog 17 [schT s,dclT d,vPs l] [] (vI (qF9 s d l)) []:=by
 have hpl:=zC3 s d;refine sIr qu0 fun e _ hst=>?_;unfold yl;refine sW ?_;refine C1.im (ZF s hs d) rF rF ?_;simp only[tZ,↓un_u,simprocAttr,Bj,Aw];refine⟨fun h=>?_,fun h=>?_⟩
 ·rw[qF9,Aj h];exact .oA [] []
 refine C1.im (qd8 s hs l hl) rF rF ?_;simp only[tZ,↓un_u,simprocAttr,Bj,Aw];refine⟨fun h2=>?_,fun h2=>?_⟩
 ·rw[qF9,Aq (by rw[h];simp),Aj h2];exact .oA [] []
 rw[jD4 h h2];refine C1.im (qS4 s hs d h) rF rF ?_;refine sW ?_;refine C1.im (qz2 (qx0 s d) l oM hl) rF rF ?_;simp only[tZ,↓un_u,simprocAttr,Bx,Bz];refine⟨fun h3=>?_,fun h3=>?_⟩
 ·rw[Aq (by rw[h3];simp)];exact .oA [] []
 ·rw[Aj h3];exact .oA [] []
end Go.Proofs
namespace Go.Proofs
open Go Go.TL
set_option maxRecDepth 4000
set_option maxHeartbeats 8000000
open So
theorem zb4 (x:Smp):Spc Tryz.prog 210 [smpT x] [] (vI (smpE x)) []:=by
 refine sIr qO9 fun e _ hst=>?_;unfold Zo;refine sD ?_;refine⟨fun h=>?_,fun h=>?_⟩
 ·rw[smpE,Aj oM];exact .oA [] []
 ·rw[smpE,Aq oM];exact .oA [] []
theorem zq6 (seed id:Int):Spc Tryz.prog 211 [vI seed,vI id] [] (vI (drwI seed id)) []:=by
 refine sIr za2 fun e _ hst=>?_;unfold JE;refine sW ?_;refine qk mixm (α:=Nat) [5,14] (fun i=>i≤3) (fun i=>[(5,vU64 (iter drwX i (drw0 seed id))),(14,vI i)]) (fun i=>[]) (fun i=>3-i) 0 oM ?_ fun i hi=>?_
 ·exact .oA [] []
 have hwi:=qh (i:=i) oM;refine sD ?_;refine⟨fun h=>?_,fun h=>?_⟩
 ·simp only[tZ,↓un_u,simprocAttr,hwi];refine⟨i+1,oM,oM,?_⟩;show Le _ _ ⟨(5,vU64 (drwX (iter drwX i (drw0 seed id))))::_,_⟩;exact .oA [] []
 ·have:i=3:=by omega
  subst this;exact .oA [] []
theorem zK8 (x:Smp) (id:Int):Spc Tryz.prog 155 [smpT x,vI id] [] (vB (inS x id)) []:=by
 refine sIr zz9 fun e _ hst=>?_;unfold Yd;refine sW ?_;refine C1.im (zb4 x) rF rF ?_;refine sW ?_;refine C2.im (fun _=>zq6 x.seed id) (fun _=>rfl) rF ?_;refine sW ?_;rw[show (smpE x==0&&decide (id≥1)&&decide (id≤1048575)&&decide ((drwI x.seed id).tmod x.of<x.part))=inS x id from rfl];refine⟨fun h=>?_,kR,?_⟩
 ·simp only[tD,AY] at h;have:=h.1.1;unfold smpE at this
  grind
 ·exact .oA [] []
theorem qG9 (s:Sch) (row:List Int) (f:FuncId) (caps:List T) (hcap:imL caps=true) (hf:∀ a,NdOk s a→isAt a=true→Spc Tryz.prog f (cnT a::caps) [] (vI (wU s a (row.getD a.col.toNat 0))) []):∀ (c:Cnd),nodE s c=0→Spc Tryz.prog 212 [cnT c,.clo f caps] [] (vI (evC s row c)) []:=by
 refine Cnd.ind' fun c ih hE=>?_;obtain⟨hE1,hE2⟩:=zJ7 hE;have hnd:=zV0 hE1;have hnk:=hnd.nk;have hop:=hnd.op;rw[jq9];by_cases h1:c.op=1
 ·have q:(c.op==1)=true:=AY.2 h1;rw[Aq (by simp [isAt,h1]),show qi0 c.op _=1 by rw[qi0,Aq oM,Aq oM,Aq oM]];refine sIr jn fun e _ hst=>?_;unfold zt;simp only[tZ,↓un_u,simprocAttr,q];exact .oA [] []
 have q1:(c.op==1)=false:=Ak.2 h1;by_cases h5:c.op=5
 ·have q5:(c.op==5)=true:=AY.2 h5;have hk:c.kids.length=2:=by rw[hnk,h5];rfl
  have k0:0<c.kids.length:=by omega
  have k1:1<c.kids.length:=by omega
  have hS0:=ih _ (AX k0) (hE2 _ (AX k0));have hS1:=ih _ (AX k1) (hE2 _ (AX k1));have g0:=zV5 s row c.kids[0];have g1:=zV5 s row c.kids[1];rw[Aq (by simp [isAt,h5]),qi0,Aq oM,Aj h5,qg (by rw[BY];omega),qg (by rw[BY];omega),Fj,Fj];have hm:minI (evC s row c.kids[0]) (evC s row c.kids[1])=min (evC s row c.kids[0]) (evC s row c.kids[1]):=by unfold minI;omega
  refine sIr jn fun e _ hst=>?_;unfold zt;simp only[tZ,↓un_u,simprocAttr,q1,q5,qd k0,qd k1,zh];refine⟨oM,?_⟩;refine C1.im hS0 (yL rfl hcap) rF ?_;simp only[tZ,↓un_u,simprocAttr,qd k1,zh];refine⟨oM,?_⟩;refine C1.im hS1 (yL rfl hcap) rF ?_;simp only[tZ,↓un_u,simprocAttr,hm];refine⟨kR,?_⟩;exact .oA [] []
 have q5:(c.op==5)=false:=Ak.2 h5;by_cases h6:c.op=6
 ·have q6:(c.op==6)=true:=AY.2 h6;have hk:c.kids.length=2:=by rw[hnk,h6];rfl
  have k0:0<c.kids.length:=by omega
  have k1:1<c.kids.length:=by omega
  have hS0:=ih _ (AX k0) (hE2 _ (AX k0));have hS1:=ih _ (AX k1) (hE2 _ (AX k1));rw[Aq (by simp [isAt,h6]),qi0,Aq oM,Aq oM,Aj h6,qg (by rw[BY];omega),qg (by rw[BY];omega),Fj,Fj];have hm:maxI (evC s row c.kids[0]) (evC s row c.kids[1])=max (evC s row c.kids[0]) (evC s row c.kids[1]):=by unfold maxI;omega
  refine sIr jn fun e _ hst=>?_;unfold zt;simp only[tZ,↓un_u,simprocAttr,q1,q5,q6,qd k0,qd k1,zh];refine⟨oM,?_⟩;refine C1.im hS0 (yL rfl hcap) rF ?_;simp only[tZ,↓un_u,simprocAttr,qd k1,zh];refine⟨oM,?_⟩;refine C1.im hS1 (yL rfl hcap) rF ?_;simp only[tZ,↓un_u,simprocAttr,hm];refine⟨kR,?_⟩;exact .oA [] []
 have q6:(c.op==6)=false:=Ak.2 h6;by_cases h7:c.op=7
 ·have q7:(c.op==7)=true:=AY.2 h7;have hk:c.kids.length=1:=by rw[hnk,h7];rfl
  have k0:0<c.kids.length:=by omega
  have hS0:=ih _ (AX k0) (hE2 _ (AX k0));have g0:=zV5 s row c.kids[0];rw[Aq (by simp [isAt,h7]),qi0,Aj h7,qg (by rw[BY];omega),Fj];have hw:IntKind.i64.wrap ((0:Int)-evC s row c.kids[0]) =-evC s row c.kids[0]:=by rw[AK _ oM];omega
  refine sIr jn fun e _ hst=>?_;unfold zt;simp only[tZ,↓un_u,simprocAttr,q1,q5,q6,q7,qd k0,zh];refine⟨oM,?_⟩;refine C1.im hS0 (yL rfl hcap) rF ?_;simp only[tZ,↓un_u,simprocAttr,hw];exact .oA [] []
 have q7:(c.op==7)=false:=Ak.2 h7;have ha:isAt c=true:=by
  simp only[isAt,tD,AY];omega
 rw[Aj ha];refine sIr jn fun e _ hst=>?_;unfold zt;simp only[tZ,↓un_u,simprocAttr,q1,q5,q6,q7];refine C1.im (hf c hnd ha) (JW rfl hcap) rfl ?_;refine sW ?_;exact .oA [] []
theorem qz3 (s:Sch) (hok:SchOk s) (row:List Int) (hr:row.length=s.cols.length) (c:Cnd) (hc:nodE s c=0):Spc Tryz.prog 156 [schT s,cnT c,vIs row] [] (vI (evC s row c)) []:=by
 have h1:∀ a,NdOk s a→isAt a=true→Spc Tryz.prog 213 [cnT a,.ip (schT s).cells,.ip [vIs row]] [] (vI (wU s a (row.getD a.col.toNat 0))) []:=fun a ha ha2=>by
  have hb:∃ k,isB s a.col k=true:=by
   simp only[isAt,tD,AY] at ha2;rcases ha2 with (h | h) | h
   ·exact⟨2,(ha.under h).1⟩
   ·exact⟨3,(ha.between h).1⟩
   ·exact⟨3,(ha.miss h).1⟩
  obtain⟨kk,hb⟩:=hb;obtain⟨b1,b2,_⟩:=zl.1 hb;have hil:a.col.toNat<row.length:=by omega
  rw[qg hil];refine sIr qb8 fun e _ hst=>?_;unfold kE;simp only[tZ,↓un_u,simprocAttr,qd hil];refine⟨oM,?_⟩;refine C1.im (Wh s hok a ha ha2 _) rF rF ?_;refine sW ?_;refine⟨kR,?_⟩;exact .oA [] []
 have h2:=qG9 s row 213 [.ip (schT s).cells,.ip [vIs row]] rfl h1 c hc;refine sIr qn5 fun e _ hst=>?_;unfold wM;refine sW ?_;refine C1.lend [4096,4104] h2 ?_ rF rF ?_
 ·all_goals (try simp only[tL,simprocAttr,By,List.map_cons,List.map_nil,BW,Cy])
  all_goals (try (repeat' (first | exact qZ | (apply zk;intro _;exact⟨rfl,rfl⟩) | (apply qA;intro _;exact⟨rfl,rfl⟩) | with_reducible apply qW | with_reducible refine qQ ⟨rfl,rfl⟩ ?_ | exact qY | with_reducible apply qR | with_reducible refine qX ⟨rfl,rfl,?_⟩ ?_ | with_reducible apply Az | exact qS rfl | exact qS (by assumption) | (refine⟨⟨?_,rfl,?_,rfl,?_⟩,trivial⟩ <;> first | (simp;done) | (apply qA;intro _;exact⟨rfl,rfl⟩)) | trivial | rfl | (rw[qh oM]) | omega)))
  all_goals (simp only[ltP];exact⟨rfl,by decide,rfl,qQ ⟨rfl,rfl⟩ qY⟩)
 refine sW ?_;exact .oA [] []
end Go.Proofs
namespace Go.Proofs
open Go Go.TL
set_option maxRecDepth 4000
set_option maxHeartbeats 8000000
open So
end Go.Proofs
namespace Go.Proofs
open Go Go.TL
set_option maxRecDepth 4000
set_option maxHeartbeats 8000000
open So
end Go.Proofs
namespace Go.Proofs
open Go Go.TL
set_option maxRecDepth 4000
set_option maxHeartbeats 8000000
open So
end Go.Proofs
namespace Go.Proofs
open Go Go.TL
set_option maxRecDepth 4000
section
variable {P:Program} {st:Sto} {e:Env} {kss:List (Nat×List Nat)} {Q:Ex→St→Prop} {K:List KF} {rows:Option (List Nat)} {ks:List Nat} {nid:Nat} {ops:List ROp} {F:XF} {acc:Acc}
theorem C1.cut0 {fid:FuncId} {caps xs ts':List T} {d:Option Nat} {ys zs:List T} {m:Nat} (id nid' k:Nat) (hs:Spc P fid ts' [(0,.arr k zs false)] (.asl 1 m) [(0,.dead),(1,.arr k ys false)]) (hg:TL.get st id=some (.arr k zs false)) (hz:ImXs k zs) (hy:ImXs k ys)
 (hn:TL.get st nid'=none) (ha:ltAs st [(0,some id)] [] (xs++caps) ts')
 (h:R P e kss Q rows ks K nid ops (putX F d (.p (.asl nid' m))) (stUp st [(id,.dead),(nid',.arr k ys false)]) (acc++[([]++[id,nid'],[id,nid'])])):C1 P e kss Q rows ks K (.clo fid caps) xs d nid ops F st acc:=by
 have hne:id≠nid':=fun e=>by subst e;rw[hg] at hn;cases hn
 refine C1.of [(0,some id)] [(nid',some 1)] [] [(id,.dead),(nid',.arr k ys false)] hs ha (by simp [yk,TL.get]) ?_ rF (by simp [TL.get]) ?_ ?_ rF ?_ (.inl rF) h
 ·refine⟨?_,trivial⟩;simp only[TL.get,if_true,ltO2,hg,ltO1];exact⟨trivial,sMp,kG hz,sMp⟩
 ·refine⟨?_,trivial⟩;simp only[TL.get,if_true,wrO,ltO1,Nat.reduceEqDiff,↓reduceIte,reduceCtorEq];exact⟨⟨trivial,sMp,kG hy,sMp⟩,.inl hn⟩
 ·simp [yk,TL.get,hne]
 ·exact⟨by simp [TL.get],rfl⟩
end
end Go.Proofs
namespace Go.Proofs
open Go Go.TL
set_option maxRecDepth 4000
set_option maxHeartbeats 8000000
open So
end Go.Proofs
namespace Go.Proofs
open Go Go.TL
open Go.TL.So
theorem jD5 (k:UInt8):IntKind.i64.wrap (0+IntKind.i64.wrap ((k.toNat:Nat):Int))=(k.toNat:Int):=by
 have h:=k.toNat_lt;rw[AK (k.toNat:Int) oM,AK _ oM];omega
def L8 (n:Nat):Nat:=if n=0 then 0 else Nat.log2 n+1
theorem jV8 (n:Nat) (h:n<256):L8 n≤8∧n<2 ^ L8 n∧(0<n→2 ^ L8 n≤2*n):=by
 unfold L8
 revert n
 decide +kernel
def L16 (n:Nat):Nat:=if n<256 then L8 n else 8+L8 (n / 256)
theorem jV9 (n:Nat) (h:n<65536):L16 n≤16∧n<2 ^ L16 n∧(0<n→2 ^ L16 n≤2*n):=by
 unfold L16;split
 ·rename_i h2;obtain⟨h3,h4,h5⟩:=jV8 n h2;exact⟨oM,h4,h5⟩
 ·rename_i h2;obtain⟨h3,h4,h5⟩:=jV8 (n / 256) oM;rw[Nat.pow_add];have h6:=h5 oM;generalize 2 ^ L8 (n / 256)=p at *
  refine⟨oM,?_,fun _=>?_⟩ <;> omega
set_option maxRecDepth 100000 in
theorem qz4 (n:Nat) (h:n<65536):Spc Tryz.prog 227 [vU64 n] [] (vI (L16 n)) []:=by
 have d1:decide ((n:Int)≥4294967296)=false:=Cq oM;have d2:decide ((n:Int)≥65536)=false:=Cq oM;by_cases h8:n<256
 ·have d3:decide ((n:Int)≥256)=false:=Cq oM;have hw:IntKind.u8.wrap (n:Int)=n:=by rw[IntKind.wrap_u8];omega
  rw[L16,Aj h8];refine sIr ZR fun e _ hst=>?_;unfold jL;simp only[tZ,↓un_u,simprocAttr,d1,d2,d3,hw,Ax,jD5];refine⟨⟨oM,Int.ofNat_lt.2 h8⟩,.imR (congrArg (fun k:Nat=>vI (k:Int)) ?_) rfl⟩;clear d1 d2 d3 hw h;unfold L8
  revert n
  decide +kernel
 ·have d3:decide ((n:Int)≥256)=true:=Cx oM;have hs:shrI .u64 (n:Int) 8=((n / 256:Nat):Int):=by
   simp only[shrI];rw[show min (8:Int).toNat IntKind.u64.bits=8 from rfl,show (2:Int) ^ 8=256 from rfl,DW _ oM];omega
  have hw:IntKind.u8.wrap ((n / 256:Nat):Int)=((n / 256:Nat):Int):=by rw[IntKind.wrap_u8];omega
  have hw2:IntKind.i64.wrap (0+8)=8:=by decide
  rw[L16,Aq h8];refine sIr ZR fun e _ hst=>?_;unfold jL;simp only[tZ,↓un_u,simprocAttr,d1,d2,d3,hs,hw,hw2,Ax];have hm:n / 256<256:=by omega
  refine⟨⟨oM,Int.ofNat_lt.2 hm⟩,.imR (congrArg vI ?_) rfl⟩;clear d1 d2 d3 hw hw2 hs h h8 hst;generalize n / 256=m at *
  unfold L8
  revert m
  decide +kernel
theorem qS5 (n:Nat) (h:n<65536):∃ l:Nat,(l≤16∧n<2 ^ l∧(0<n→2 ^ l≤2*n))∧Spc Tryz.prog 166 [vU64 n] [] (vI l) []:=by
 have hs:=qz4 n h;refine⟨L16 n,jV9 n h,?_⟩;refine sIr qE1 fun e _ hst=>?_;unfold Qj;refine sW ?_;refine C1.im hs rF rF ?_;refine sW ?_;exact .imR rfl rfl
def xs1 (v:Int):Int:=xorI .u64 v (shlI .u64 v 13)
def xs2 (v:Int):Int:=xorI .u64 v (shrI .u64 v 7)
end Go.Proofs
namespace Go.Proofs
open Go Go.TL
open Go.TL.So
set_option maxHeartbeats 2000000
end Go.Proofs
namespace Go.Proofs
open Go Go.TL
set_option maxRecDepth 4000
set_option maxHeartbeats 8000000
open So
end Go.Proofs
namespace Go.Proofs
open Go Go.TL
set_option maxRecDepth 4000
set_option maxHeartbeats 8000000
open So
end Go.Proofs
namespace Go.Proofs
open Go Go.TL
set_option maxRecDepth 4000
set_option maxHeartbeats 4000000
structure DrE (x:Src) (d:Edt):Prop where
 kind:1≤d.kind∧d.kind≤4
 len:d.row.length≤8
 id:0≤d.id∧d.id≤1048575
end Go.Proofs
namespace Go.Proofs
open Go Go.TL
set_option maxRecDepth 4000
set_option maxHeartbeats 8000000
open So
theorem SrcOk.smx {s:Src} (h:SrcOk s):zb2 s:=⟨(qV h.sch).sm,fun r hr=>by
 have h1:=(qh9 (h.rows r hr)).2.1;have h2:=(qV h.sch).nc;omega⟩
structure TwoOk (a b:Ext):Prop where
 pa:a.proj=b.proj
 pk:a.picks=b.picks
 oa:ExtOk a
 ob:ExtOk b
 sa:ExtSm a
 sb:ExtSm b
 na:a.rows.length≤200
 nb:b.rows.length≤200
theorem TwoOk.symm {a b:Ext} (h:TwoOk a b):TwoOk b a:=⟨h.pa.symm,h.pk.symm,h.ob,h.oa,h.sb,h.sa,h.nb,h.na⟩
theorem zK9 (s:Src) (l:List Pk) (k:Int):∀ (m A:List (List Int)),AscR A→(∀ r∈A,r.length=l.length+1)→AscR (m.foldl (yd s l k) A)∧(∀ r∈m.foldl (yd s l k) A,r.length=l.length+1)∧(m.foldl (yd s l k) A).length≤A.length+m.length
 | [],A,h1,h2=>⟨h1,h2,sMp⟩
 | r::m,A,h1,h2=>by
   obtain⟨k1,k2,k3⟩:=zK9 s l k m (yd s l k A r) (zo3 h1) (fun x hx=>by
    rcases (zo4 h1).1 hx with e | ⟨hx,_⟩
    ·rw[e];simp [rowX]
    ·exact h2 x hx)
   have h3:=zo5 A (rowX s l k r);refine⟨k1,k2,?_⟩;have h4:(yd s l k A r).length≤A.length+1:=h3;rw[Dw,CJ];omega
theorem jD6 {s:Src} (h:SrcOk s) (d:Dcl):(ownR s d).length≤200:=by
 have:=h.nr;unfold ownR;split
 ·simp
 ·exact FZ (Fx _ _) h.nr
end Go.Proofs
namespace Go.Proofs
open Go Go.TL
set_option maxRecDepth 4000
set_option maxHeartbeats 8000000
open So
theorem jD7 (x:ByteArray):eqB x x=true:=by
 show (x.toList==x.toList)=true;simp
end Go.Proofs
namespace Go.Proofs
open Go Go.TL
set_option maxRecDepth 4000
set_option maxHeartbeats 8000000
open So
end Go.Proofs
namespace Go.Proofs
open Go Go.TL
set_option maxRecDepth 4000
set_option maxHeartbeats 8000000
open So
end Go.Proofs
namespace Go.Proofs
open Go Go.TL
set_option maxRecDepth 4000
set_option maxHeartbeats 8000000
open So
theorem jK8 {k n:Int} (hk:0≤k∧k<1152921504606846976) (hn:0≤n∧n<1048576):0≤keyI k n∧idI k (keyI k n)=n:=by
 have h1:Qz k n=true:=by simp [Qz];omega
 have h2:=Zw (s:=k) (Yw hn) 8;have h3:=zD0 h2;have h4:keyI k n=tie (fwd k 8 (cut n)):=by rw[keyI,Aj h1]
 have h5:Qz k (keyI k n)=true:=by rw[h4];simp [Qz];omega
 refine⟨oM,?_⟩;rw[idI,Aj h5,h4,jO5 h2,jr4 (Yw hn),jO6]
theorem jP9 {k n m:Int} (hk:0≤k∧k<1152921504606846976) (hn:0≤n∧n<1048576) (hm:0≤m∧m<1048576) (h:keyI k n=keyI k m):n=m:=by
 have h1:=(jK8 hk hn).2;have h2:=(jK8 hk hm).2;rw[← h1,← h2,h]
theorem zE5 (s:Src) (l:List Pk) (k:Int):∀ (m A:List (List Int)),AscR A→(m.Pairwise fun a b=>keyI k (hd a)≠keyI k (hd b))→(∀ r∈m,∀ x∈A,hd x≠keyI k (hd r))→
 ∀ x,x∈m.foldl (yd s l k) A↔x∈A∨∃ r∈m,x=rowX s l k r
 | [],A,_,_,_,x=>by simp
 | r::m,A,h1,h2,h3,x=>by
   obtain⟨h4,h5⟩:=List.pairwise_cons.1 h2;have hm:∀ y,y∈yd s l k A r↔y=rowX s l k r∨y∈A:=fun y=>by
    show y∈putR A (rowX s l k r)↔_;rw[zo4 h1];constructor
    ·rintro (a | ⟨a,_⟩)
     ·exact .inl a
     ·exact .inr a
    ·rintro (a | a)
     ·exact .inl a
     ·exact .inr ⟨a,h3 r sMp y a⟩
   rw[Dw,zE5 s l k m (yd s l k A r) (zo3 h1) h5 (fun q hq y hy=>by
    rcases (hm y).1 hy with e | hy
    ·rw[e];exact h4 q hq
    ·exact h3 q (CQ _ hq) y hy),hm]
   constructor
   ·rintro ((a | a) | ⟨q,hq,a⟩)
    ·exact .inr ⟨r,sMp,a⟩
    ·exact .inl a
    ·exact .inr ⟨q,CQ _ hq,a⟩
   ·rintro (a | ⟨q,hq,a⟩)
    ·exact .inl (.inr a)
    ·rcases Ck.1 hq with rfl | hq
     ·exact .inl (.inl a)
     ·exact .inr ⟨q,hq,a⟩
theorem jt9 {s:Src} {d:Dcl} (h:SrcOk s) (hd0:dclE s.sch d=0) (r:List Int):r∈ownR s d↔r∈s.rows∧ownP s d r=true:=by
 unfold ownR;rw[Aq (by rw[KY.2 h,hd0];simp),Fz]
theorem jK9 {s:Src} {d:Dcl} {k:Int} (h:SrcOk s) (hk:0≤k∧k<1152921504606846976):(ownR s d).Pairwise fun a b=>keyI k (hd a)≠keyI k (hd b):=by
 unfold ownR;split
 ·exact List.Pairwise.nil
 ·refine List.Pairwise.filter _ ?_;refine List.Pairwise.imp_of_mem ?_ h.asc;intro a b ha hb hab e;have h1:=jB2 (h.rows a ha);have h2:=jB2 (h.rows b hb);have:=jP9 hk oM oM e;omega
theorem jb1 {s:Src} {d:Dcl} {l:List Pk} {k:Int} (h:SrcOk s) (hd0:dclE s.sch d=0) (hk:0≤k∧k<1152921504606846976) (x:List Int) :
 x∈qq6 s d l k↔∃ r∈s.rows,ownP s d r=true∧x=rowX s l k r:=by
 unfold qq6;rw[zE5 s l k _ [] List.Pairwise.nil (jK9 h hk) sMp];constructor
 ·rintro (a | ⟨r,hr,e⟩)
  ·simp at a
  ·obtain⟨h1,h2⟩:=(jt9 h hd0 r).1 hr;exact⟨r,h1,h2,e⟩
 ·rintro ⟨r,h1,h2,e⟩;exact .inr ⟨r,(jt9 h hd0 r).2 ⟨h1,h2⟩,e⟩
end Go.Proofs
namespace Go.Proofs
open Go Go.TL
set_option maxRecDepth 4000
set_option maxHeartbeats 8000000
end Go.Proofs
namespace Go.Proofs
open Go Go.TL
set_option maxRecDepth 4000
set_option maxHeartbeats 8000000
open So
end Go.Proofs
namespace Go.Proofs
open Go Go.TL
set_option maxRecDepth 4000
set_option maxHeartbeats 8000000
theorem SrcOk.rw {s:Src} (h:SrcOk s):RwId s.rows:=⟨h.asc,fun r hr=>yG (h.rows r hr),fun r hr=>jB2 (h.rows r hr),by have:=h.nr;omega⟩
end Go.Proofs
namespace Go.Proofs
open Go Go.TL
set_option maxRecDepth 4000
set_option maxHeartbeats 8000000
end Go.Proofs
namespace Go.Proofs
open Go Go.TL
set_option maxRecDepth 4000
set_option maxHeartbeats 8000000
end Go.Proofs
namespace Go.Proofs
open Go Go.TL
set_option maxRecDepth 4000
set_option maxHeartbeats 8000000
end Go.Proofs
namespace Go.Proofs
open Go Go.TL
set_option maxRecDepth 4000
set_option maxHeartbeats 8000000
end Go.Proofs
namespace Go.Proofs
open Go Go.TL
set_option maxRecDepth 4000
set_option maxHeartbeats 8000000
open So
theorem ju0 {xs:List (List Int)} {i:Nat} (h:i<xs.length):(xs.map vIs).getD i .junk=vIs (gd xs i):=by rw[zf1 h];exact qd h
theorem jQ0 (x y:List Int):repl (vIs x) 0 (vIs y)=vIs y:=rfl
theorem jQ1 (x:List Int):(vIs x).cells.getD 0 .junk=vIs x:=rfl
theorem jW0 (xs:List (List Int)) (i:Nat) (v:List Int):(xs.map vIs).set i (vIs v)=(xs.set i v).map vIs:=List.map_set.symm
theorem jW1 (xs:List (List Int)) (i j:Nat):((xs.set i (gd xs j)).set j (gd xs i))=swp xs i j:=rfl
theorem gd_mem {xs:List (List Int)} {i:Nat} (h:i<xs.length):gd xs i∈xs:=by rw[zf1 h];exact AX h
section
variable (cv:List Int→List Int→Int) (P:List Int→Prop) (f:FuncId) (hf:∀ x y,P x→P y→Spc Tryz.prog f [vIs x,vIs y] [] (vI (cv x y)) [])
abbrev ltV (x y:List Int):Bool:=decide (cv x y<0)
include hf in
theorem wv (xs:List (List Int)) (hP:∀ x∈xs,P x) (a b:Nat) (hab:a≤b) (hb:b≤xs.length) (hl:xs.length<4611686018427387904) :
 Spc Tryz.prog 218 [.asl 0 xs.length,vI a,vI b,.clo f []] [(0,.arr 1 (xs.map vIs) false)] (.tup []) [(0,.arr 1 ((insS (ltV cv) xs a b).map vIs) false)]:=by
 have hw:=qh (i:=a) oM;refine sIr wg fun e _ hst=>?_;unfold zj;simp only[tZ,↓un_u,simprocAttr,hw];refine qk mixm (α:=List (List Int)×Nat) [8] (fun q=>q.1.length=xs.length∧a+1≤q.2∧(q.2≤b∨q.2=a+1)∧insF (ltV cv) a (b-q.2) q.2 q.1=insS (ltV cv) xs a b∧∀ x∈q.1,P x) (fun q=>[(8,vI q.2)]) (fun q=>[(0,.arr 1 (q.1.map vIs) false)]) (fun q=>b-q.2) (xs,a+1) ⟨rfl,BZ _,.inr rfl,rfl,hP⟩ ?_ fun q hq=>?_
 ·exact .oA [(0,some 0)] []
 obtain⟨ys,i⟩:=q;obtain⟨h1,h2,h3,h4,hPy⟩:=hq;dsimp only at h1 h2 h3 h4 hPy;simp only[tZ,↓un_u,simprocAttr,AZ,Ay];refine⟨fun h5=>?_,fun h5=>?_⟩
 ·have hi2:i<b:=by omega
  rw[show b-i=(b-(i+1))+1 by omega,insF] at h4;refine qk mixm (α:=List (List Int)×Nat) [9] (fun q=>q.1.length=xs.length∧a≤q.2∧q.2≤i∧insJ (ltV cv) a q.2 q.1=insJ (ltV cv) a i ys∧∀ x∈q.1,P x) (fun q=>[(9,vI q.2)]) (fun q=>[(0,.arr 1 (q.1.map vIs) false)]) (fun q=>q.2) (ys,i) ⟨h1,oM,BZ _,rfl,hPy⟩ ?_ fun q hq=>?_
  ·exact .oA [(0,some 0)] []
  obtain⟨zs,j⟩:=q;obtain⟨g1,g2,g3,g4,hPz⟩:=hq;dsimp only at g1 g2 g3 g4 hPz;by_cases hj:a<j
  ·obtain⟨j,rfl⟩:∃ k,j=k+1:=⟨j-1,oM⟩;have hwj:IntKind.i64.wrap (((j+1:Nat):Int)-1)=(j:Int):=by rw[AK _ oM];omega
   have hd:decide (((j+1:Nat):Int)>a)=true:=by simp;omega
   have hc:=hf (gd zs (j+1)) (gd zs j) (hPz _ (gd_mem oM)) (hPz _ (gd_mem oM));simp only[tZ,↓un_u,simprocAttr,hwj,hd,Ax,ju0 (show j<zs.length by omega),ju0 (show j+1<zs.length by omega)];refine⟨⟨g1,oM,oM⟩,⟨g1,oM⟩,⟨g1,oM,oM⟩,⟨g1,oM⟩,?_⟩;refine C2.one (by trivial) (C1.im hc rF rF ?_);have hsl:(zs.set (j+1) (gd zs j)).length=zs.length:=Fw;simp only[tZ,↓un_u,simprocAttr,hwj,Ax,ju0 (show j<zs.length by omega),ju0 (show j+1<zs.length by omega),jQ0,jQ1,jW0,ju0 (show j<(zs.set (j+1) (gd zs j)).length by omega),jW1];have hin:insJ (ltV cv) a (j+1) zs=if a<j+1∧ltV cv (gd zs (j+1)) (gd zs j)=true then insJ (ltV cv) a j (swp zs (j+1) j) else zs:=rfl
   refine⟨kR,fun h6=>?_,fun h6=>?_⟩
   ·refine⟨⟨g1,oM,oM⟩,⟨g1,oM⟩,⟨g1,oM,oM⟩,⟨g1,oM⟩,⟨g1,oM,oM⟩,⟨g1,oM⟩,⟨oM,oM,oM⟩,⟨oM,oM⟩,kR,(swp zs (j+1) j,j),⟨by dsimp only;rw[zi8];exact g1,by dsimp only;omega,by dsimp only;omega,?_,fun x hx=>hPz x ((zT8 oM oM).mem_iff.1 hx)⟩,by dsimp only;omega,?_⟩
    ·rw[← g4,hin,Aj ⟨hj,h6⟩]
    ·exact .oA [(0,some 0)] []
   ·rw[hin,Aq (fun e=>by have e2:=e.2;unfold ltV at e2;rw[h6] at e2;cases e2)] at g4;have hwi:=qh (i:=i) oM;refine⟨(zs,i+1),⟨g1,by dsimp only;omega,by dsimp only;omega,?_,hPz⟩,by dsimp only;omega,?_⟩
    ·dsimp only;rw[g4];exact h4
    ·rw[hwi];exact .oA [(0,some 0)] []
  ·have hd:decide ((j:Int)>a)=false:=by simp;omega
   have hwi:=qh (i:=i) oM;have hin:insJ (ltV cv) a j zs=zs:=by
    cases j with
    | zero=>rfl
    | succ j=>unfold insJ;rw[Aq (fun e=>hj e.1)]
   rw[hin] at g4;simp only[tZ,↓un_u,simprocAttr,hd,hwi];refine C2.no (fun h=>h) ?_;simp only[tZ,↓un_u,simprocAttr,hwi];refine⟨kR,(zs,i+1),⟨g1,by dsimp only;omega,by dsimp only;omega,?_,hPz⟩,by dsimp only;omega,?_⟩
   ·dsimp only;rw[g4];exact h4
   ·exact .oA [(0,some 0)] []
 ·rw[show b-i=0 by omega,insF] at h4;rw[← h4];exact .oA [(0,some 0)] []
theorem jL0 {st:Sto} {B:List Nat} (n:Nat) (ts:List T) (h:imAL ts=true):ltAs st [(0,some 0)] B (.asl 0 n::ts) (.asl 0 n::ts):=⟨by simp [ltA,ltC,ltC0,TL.get],qe7 h⟩
include hf in
theorem qj0 (xs:List (List Int)) (hP:∀ x∈xs,P x) (lim:Nat) (hl:xs.length≤12) :
 Spc Tryz.prog 165 [.asl 0 xs.length,vI 0,vI xs.length,vI lim,.clo f []] [(0,.arr 1 (xs.map vIs) false)] (.tup []) [(0,.arr 1 ((insS (ltV cv) xs 0 xs.length).map vIs) false)]:=by
 have hw1:IntKind.i64.wrap ((xs.length:Int)-0)=(xs.length:Int):=by rw[AK _ oM];omega
 have hin:=wv cv P f hf xs hP 0 xs.length oM oM oM;refine yi [11,16,18] Qi mixm sMp fun e _ hst=>yV ?_;unfold zz;simp only[JV,List.contains_cons,List.contains_nil,Nat.reduceBEq,Bool.or_false,Bool.or_true,Bool.true_or,Bool.false_or,cond_true,cond_false];refine sW ?_;refine qk mixm (α:=Unit) [1,2,3,10,11] (fun _=>True) (fun _=>[(1,vI 0),(2,vI xs.length),(3,vI lim),(10,vB true),(11,vB true)]) (fun _=>[(0,.arr 1 (xs.map vIs) false)]) (fun _=>0) () trivial ?_ fun q hq=>?_
 ·exact .oA [(0,some 0)] []
 simp only[tZ,↓un_u,simprocAttr,AZ,Ay,hw1];refine⟨fun h8=>?_,fun h8=>absurd (show (xs.length:Int)≤12 by omega) h8⟩;refine C1.upd 0 1 _ _ hin rF (by apply qA;intro _;exact⟨rfl,rfl⟩) (by apply qA;intro _;exact⟨rfl,rfl⟩) (jL0 _ _ rF) rF ?_;refine sW ?_;exact .oA [(0,some 0)] []
include hf in
theorem WD (xs:List (List Int)) (hP:∀ x∈xs,P x) (hl:xs.length≤12):∃ ys,(ys.Perm xs∧(SWOrd (ltV cv)→Srt (ltV cv) ys 0 xs.length))∧
 Spc Tryz.prog 96 [.asl 0 xs.length,.clo f []] [(0,.arr 1 (xs.map vIs) false)] (.tup []) [(0,.arr 1 (ys.map vIs) false)]:=by
 obtain⟨lim,hlim,hs⟩:=qS5 xs.length oM;refine⟨insS (ltV cv) xs 0 xs.length,⟨(jN9 (ltV cv) xs (Nat.zero_le _) (BZ _)).perm,fun ho=>jA0 ho xs (Nat.zero_le _) (BZ _)⟩,?_⟩;have hu:IntKind.u64.wrap (xs.length:Int)=(xs.length:Int):=by rw[IntKind.wrap_u64];omega
 refine sIr KD fun e _ hst=>?_;unfold js;simp only[tZ,↓un_u,simprocAttr,hu];refine C1.im hs rF rF ?_;refine sW ?_;refine C1.upd 0 1 _ _ (qj0 cv P f hf xs hP lim hl) rF (by apply qA;intro _;exact⟨rfl,rfl⟩) (by apply qA;intro _;exact⟨rfl,rfl⟩) (jL0 _ _ rF) rF ?_;refine sW ?_;exact .oA [(0,some 0)] []
end
end Go.Proofs
namespace Go.Proofs
open Go Go.TL
set_option maxRecDepth 4000
set_option maxHeartbeats 8000000
open So
def bidV (x y:List Int):Int:=hd x-hd y
theorem ju1 (x y:List Int):ltV bidV x y=decide (hd x<hd y):=by
 unfold ltV bidV;exact decide_eq_decide.2 oM
theorem jQ2:SWOrd (ltV bidV):=by
 refine⟨fun x y h=>?_,fun x y z h1 h2=>?_⟩
 ·rw[ju1] at h ⊢
  have:=of_decide_eq_true h;exact Cq oM
 ·rw[ju1] at h1 h2 ⊢
  have k1:=of_decide_eq_false h1;have k2:=of_decide_eq_false h2;exact Cq oM
theorem jQ3 {ys:List (List Int)} (h:Srt (ltV bidV) ys 0 ys.length) (hn:∀ i,0<i→i<ys.length→hd (ys.getD i default)≠hd (ys.getD (i-1) default)):AscR ys:=by
 refine ja7 (f:=hd) fun i h0 hi=>?_;have h1:=h (i-1) i oM oM hi;have h2:=hn i h0 hi;have e1:gd ys i=ys.getD i default:=rfl;have e2:gd ys (i-1)=ys.getD (i-1) default:=rfl;unfold lew at h1;rw[e1,e2,ju1] at h1;have:=of_decide_eq_false h1;omega
end Go.Proofs
