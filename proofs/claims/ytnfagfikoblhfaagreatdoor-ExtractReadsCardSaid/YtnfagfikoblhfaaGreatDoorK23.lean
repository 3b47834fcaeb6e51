/- A part of the proof: trees of Go values, short forms, contracts. -/
import Derived.WalkKit
import Derived.Still
import Derived.MapKept
import GoSem.Builtin.Cap
import Derived.Laws.Externs
import GoSem.Extern.SlicesOverlaps
import Derived.Carry
import Derived.ProofKit
import Derived.OpenShut
import Derived.HandedShaped
import Derived.Lay
import Derived.LaidLaws
import Derived.MakeChecks
import Derived.SevenTiedAt
import Derived.Test.YtnfagfikoblhfaaGreatDoorChecked
import Derived.Test.YtnfagfikoblhfaaGreatDoorK22
set_option linter.unusedSimpArgs false
set_option linter.unusedVariables false
namespace Go.Proofs
open Go Go.TL
set_option maxRecDepth 4000
set_option maxHeartbeats 8000000
def mxc:List Pk→Int
 | []=>0
 | p::r=>max p.col (mxc r)
theorem jx7:∀ l:List Pk,0≤mxc l
 | []=>Int.le_refl _
 | p::r=>by have:=jx7 r;rw[mxc];omega
theorem ja8:∀ (l:List Pk) (p:Pk),mxc (l++[p])=max (mxc l) p.col
 | [],p=>by show max p.col 0=max 0 p.col;omega
 | q::r,p=>by rw[BW,mxc,mxc,ja8 r p];omega
theorem jO4 {n:Int} (hn:0≤n):∀ {l:List Pk},(∀ p∈l,p.col≤n)→mxc l≤n
 | [],_=>hn
 | p::r,h=>by
   have h1:=h p sMp;have h2:=jO4 hn (l:=r) fun q hq=>h q (CQ _ hq);rw[mxc];omega
theorem jO5:∀ {l:List Pk} {p:Pk},p∈l→p.col≤mxc l
 | q::r,p,h=>by
   rw[mxc];rcases Ck.1 h with e | h
   ·rw[e];omega
   ·have:=jO5 h;omega
theorem Kx (ls:List (List Pk)) (n:Nat) (h1:1≤n) (h2:n≤1000) (hls:ls.length≤1000) (hl:∀ l∈ls,l.length≤1000) (hb:∀ l∈ls,∀ p∈l,0≤p.col∧p.col<n) :
 Spc Tryz.prog 124 [.sl 1 (ls.map vPs)] [] (vPs (canF (fun k=>mxl ls.flatten k) n)) []:=by
 refine sIr qo0 fun e _ hst=>?_;unfold wN;refine sW ?_;refine qk mixm (α:=Nat×List (Int×Int)) [4,14] (fun y=>y.1≤ls.length∧∀ k,(TL.look TL.eqI k y.2).getD 0=mxl (ls.take y.1).flatten k) (fun y=>[(4,vI (mxc (ls.take y.1).flatten)),(14,vI y.1)]) (fun y=>[(8192,.mp (.ii y.2))]) (fun y=>ls.length-y.1) (0,[]) ⟨sMp,fun k=>rfl⟩ ?_ fun y hy=>?_
 ·exact .oA [(8192,some 8192)] []
 obtain⟨i,M⟩:=y;obtain⟨y1,y2⟩:=hy;dsimp only at y1 y2;refine sD ?_;refine⟨fun h=>?_,fun h=>?_⟩
 ·have hi:i<ls.length:=by omega
  have hwi:=qh (i:=i) oM;have hll:=hl _ (AX hi);have hbb:=hb _ (AX hi);have hfl:(ls.take (i+1)).flatten=(ls.take i).flatten++ls[i]:=by rw[qJ hi,List.flatten_append];simp
  generalize (ls.take i).flatten=A at y2 hfl ⊢
  simp only[tZ,↓un_u,simprocAttr,Ax,qd hi];refine⟨oM,?_⟩;generalize ls[i]=l at hll hbb hfl ⊢
  refine qk mixm (α:=Nat×List (Int×Int)) [4,20] (fun y=>y.1≤l.length∧∀ k,(TL.look TL.eqI k y.2).getD 0=mxl (A++l.take y.1) k) (fun y=>[(4,vI (mxc (A++l.take y.1))),(20,vI y.1)]) (fun y=>[(8192,.mp (.ii y.2))]) (fun y=>l.length-y.1) (0,M) ⟨sMp,fun k=>by rw[List.take_zero,CW];exact y2 k⟩ ?_ fun y hy=>?_
  ·refine .of [(8192,some 8192)] [] rfl (by first | rfl | (rw[hst];rfl)) ?_ ?_
   all_goals (try simp only[tL,simprocAttr,By,List.map_cons,List.map_nil,BW,Cy,List.take_zero,CW])
   all_goals (try (repeat' (first | exact qZ | (apply ze;intro _;exact⟨rfl,rfl⟩) | (apply qE;intro _;exact⟨rfl,rfl⟩) | with_reducible apply qV | with_reducible refine qT ⟨rfl,rfl⟩ ?_ | exact qY | with_reducible apply qR | with_reducible refine qW ⟨rfl,rfl,?_⟩ ?_ | with_reducible apply Az | exact qS rfl | exact qS (by assumption) | (refine⟨⟨?_,rfl,?_,rfl,?_⟩,trivial⟩ <;> first | (simp;done) | (apply qE;intro _;exact⟨rfl,rfl⟩)) | trivial | rfl | (rw[qh oM]) | omega)))
  obtain⟨j,N⟩:=y;obtain⟨z1,z2⟩:=hy;dsimp only at z1 z2;refine sD ?_;refine⟨fun h5=>?_,fun h5=>?_⟩
  ·have hj:j<l.length:=by omega
   have hwj:=qh (i:=j) oM;have hts:A++l.take (j+1)=A++l.take j++[l[j]]:=by rw[qJ hj,Dj]
   have hnew:∀ k,(TL.look TL.eqI k (TL.asg TL.eqI l[j].col (max (mxl (A++l.take j) l[j].col) l[j].lev) N)).getD 0=mxl (A++l.take (j+1)) k:=fun k=>by
    rw[qt3,hts,jH5];by_cases e:k=l[j].col
    ·subst e;rw[Aj rfl,Aj rfl];rfl
    ·rw[Aq e,Aq (fun h=>e h.symm)];exact z2 k
   have hx:=ja8 (A++l.take j) l[j];rw[← hts] at hx;have hz:=z2 l[j].col;simp only[tZ,↓un_u,simprocAttr,Ax,qd hj,hwj,zi8,hz,← hx];refine⟨oM,kR,?_⟩;refine⟨(j+1,_),⟨by dsimp only;omega,hnew⟩,by dsimp only;omega,?_⟩;exact .oA [(8192,some 8192)] []
  ·have hjl:j=l.length:=by omega
   subst hjl;rw[Bw,← hfl] at z2 ⊢
   simp only[tZ,↓un_u,simprocAttr,hwi];refine⟨(i+1,N),⟨by dsimp only;omega,z2⟩,by dsimp only;omega,?_⟩;exact .oA [(8192,some 8192)] []
 ·have hil:i=ls.length:=by omega
  subst hil;rw[Bw] at y2 ⊢
  have hbf:∀ p∈ls.flatten,0≤p.col∧p.col<n:=fun p hp=>by
   obtain⟨l,hl,hpl⟩:=List.mem_flatten.1 hp;exact hb l hl p hpl
  have hml:=jO4 (n:=n-1) oM (l:=ls.flatten) fun p hp=>by have:=hbf p hp;omega
  have hmp:=jx7 ls.flatten;have hmore:canF (fun k=>mxl ls.flatten k) n=canF (fun k=>mxl ls.flatten k) ((mxc ls.flatten).toNat+1):=by
   rw[show n=(mxc ls.flatten).toNat+1+(n-((mxc ls.flatten).toNat+1)) by omega,zI0];intro k hk _;rw[qb2 fun p hp=>by have:=jO5 hp;omega];exact Int.le_refl _
  rw[hmore];obtain⟨c,hc⟩:=AJ hmp;rw[hc,Ax];have hwc:=qh (i:=c) oM;rw[hwc];generalize ls.flatten=A at y2 ⊢
  refine qk mixm (α:=Nat) [9,42] (fun k=>k≤c+1) (fun k=>[(9,.asl 1 (canF (fun k=>mxl A k) k).length),(42,vI k)]) (fun k=>[(8192,.mp (.ii M)),(1,.arr 2 ((canF (fun k=>mxl A k) k).map pkT) false)]) (fun k=>c+1-k) 0 oM ?_ fun k hk=>?_
  ·exact .oA [(8192,some 8192),(1,none)] []
  have hcl:=zt3 (fun k=>mxl A k) k;have hcs:canF (fun k=>mxl A k) (k+1)=canF (fun k=>mxl A k) k++(if 0<mxl A k then [⟨(k:Nat),mxl A k⟩] else []):=by rw[canF]
  have hz:=y2 k;refine sD ?_;refine⟨fun h5=>?_,fun h5=>?_⟩
  ·have hwk:=qh (i:=k) oM;simp only[tZ,↓un_u,simprocAttr,hz,hwk,gt_iff_lt,tD];refine⟨fun h6=>?_,fun h6=>?_⟩
   ·rw[Aj h6] at hcs;refine⟨oM,k+1,oM,oM,?_⟩;rw[hcs,By,AW];exact .oA [(8192,some 8192),(1,some 1)] []
   ·rw[Aq h6,CW] at hcs;refine⟨k+1,oM,oM,?_⟩;rw[hcs];exact .oA [(8192,some 8192),(1,some 1)] []
  ·rw[show k=c+1 by omega];exact .oA [] [1]
theorem jx8 {s:Sch} {q:Qst} (hq:QstOk s q):∀ d∈q.dims,yc s d=0∧isB s d.col 2=true:=fun d hd=>by
 by_cases h1:q.kind=1
 ·have h2:=(hq.dims h1).1;unfold ZE at h2;split at h2
  ·cases h2
  obtain⟨i,hi,rfl⟩:=CX hd;have h3:=ww h2 i hi;have hp:pkAt q.dims i=q.dims[i]:=by rw[pkAt,qg hi]
  unfold dimE at h3;rw[hp] at h3;split at h3
  ·rename_i h4;exact absurd h3 h4
  rename_i h4;split at h3
  ·cases h3
  rename_i h5;exact⟨AQ h4,by simpa using h5⟩
 ·rw[hq.d0 h1] at hd;simp at hd
theorem jO6 {s:Sch} {q:Qst} (hq:QstOk s q):∀ c∈cnsL q,chkC s c=0:=fun c hc=>by
 unfold cnsL at hc;split at hc
 ·rename_i h;rcases Ck.1 hc with e | hc
  ·rw[e];exact hq.filt
  ·rw[Ey.1 hc];exact (hq.event h).2.2
 ·rw[Ey.1 hc];exact hq.filt
theorem jT9 {s:Sch} {q:Qst} {n:Nat} {p:Pk}:p∈usP s q n↔∃ k:Nat,k<n∧usB q k=true∧p=⟨k,ke s k (finI s k)⟩:=by
 unfold usP;simp only[Cj,Fz,Dk];constructor
 ·rintro ⟨k,⟨h1,h2⟩,rfl⟩;exact⟨k,h1,h2,rfl⟩
 ·rintro ⟨k,h1,h2,rfl⟩;exact⟨k,⟨h1,h2⟩,rfl⟩
theorem jU0 (s:Sch) (q:Qst) (n:Nat):(usP s q n).length≤n:=by
 unfold usP;rw[BY];have:=Fx (fun k:Nat=>usB q k) (List.range n);rw[List.length_range] at this;exact this
def zO9 (s:Sch) (q:Qst):List Pk:=dmP s q++usP s q s.cols.length++(cnsL q).flatMap (zY s)
theorem zt6 {s:Sch} {q:Qst} (hq:QstOk s q):∀ p∈zO9 s q,1≤p.col∧p.col<s.cols.length:=fun p hp=>by
 unfold zO9 at hp;rcases Dz.1 hp with hp | hp
 ·rcases Dz.1 hp with hp | hp
  ·obtain⟨d,hd,rfl⟩:=Cj.1 hp;obtain⟨_,h1,h2,_⟩:=Wi (jx8 hq d hd).1;exact⟨h1,h2⟩
  ·obtain⟨k,h1,h2,rfl⟩:=jT9.1 hp;unfold usB at h2;rw[Bq,AZ] at h2;exact⟨by dsimp only;omega,by dsimp only;omega⟩
 ·obtain⟨c,hc,hp⟩:=Ek.1 hp;exact jH6 (jO6 hq c hc) p hp
theorem qA1 {s:Sch} {q:Qst} (h:qstE s q=0):kN s q=canF (fun k=>mxl (zO9 s q) k) s.cols.length:=by
 have hq:=qy8 h;have hb:=zt6 hq;obtain⟨n1,n2⟩:=qA0 hq.filt;rw[zO8 h,n1,qz9 _ (fun k=>qk2 _ _) fun p hp=>?_]
 ·refine Kw fun k _=>?_;rw[← jx6 hq.filt k];have e:(cnsL q).flatMap (zY s)=zY s q.filt++evP s q:=by
   unfold cnsL evP;split <;> simp
  rw[zO9,e];simp only[zt4];omega
 ·have:p∈zO9 s q:=by
   unfold zO9;have e:(cnsL q).flatMap (zY s)=zY s q.filt++evP s q:=by
    unfold cnsL evP;split <;> simp
   rw[e];simp only[Dz] at hp ⊢
   rcases hp with (h | h) | h
   ·exact .inr (.inr h)
   ·exact .inl (.inl h)
   ·exact .inl (.inr h)
  have:=hb p this;omega
theorem qA2 (s:Sch) (hs:jo s) (q:Qst):Spc Tryz.prog 73 [schT s,qstT q] [] (vPs (kN s q)) []:=by
 refine kW [15] qn2 mixm sMp fun e _ hst=>yu ?_;unfold wJ;simp only[Jb,List.contains_cons,List.contains_nil,Nat.reduceBEq,Bool.or_false,Bool.or_true,Bool.true_or,Bool.false_or,cond_true,cond_false];refine sW ?_;refine C1.im (yn s hs q) rF rF ?_;simp only[tZ,↓un_u,simprocAttr,Bj,Aw];refine⟨fun h=>?_,fun h=>?_⟩
 ·rw[kN,Aj h];exact .oA [] []
 have hq:=qy8 h;have hok:=qU hq.sch;have hnc:=hok.nc;have hnd:=hq.nd;have hnt:=hq.nt;have hck:=jO6 hq;have hcl:(cnsL q).length≤2:=by unfold cnsL;split <;> simp
 have hdl:(dmP s q).length=q.dims.length:=BY _;have hbd:=zt6 hq;refine qk mixm (α:=Nat) [5,19] (fun i=>i≤q.dims.length) (fun i=>[(5,.asl 1 ((dmP s q).take i).length),(19,vI i)]) (fun i=>[(4096,.arr 2 [schT s] false),(4100,.arr 17 [qstT q] false),(1,.arr 2 (((dmP s q).take i).map pkT) false)]) (fun i=>q.dims.length-i) 0 oM ?_ fun i hi=>?_
 ·exact .oA [(4096,some 4096),(4100,some 4100),(1,none)] []
 refine sD ?_;refine⟨fun h3=>?_,fun h3=>?_⟩
 ·have hi2:i<q.dims.length:=by omega
  have hwi:=qh (i:=i) oM;have hts:(dmP s q).take (i+1)=(dmP s q).take i++[⟨q.dims[i].col,ke s q.dims[i].col q.dims[i].lev⟩]:=by
   rw[qJ oM];simp only[dmP,Fj]
  have hLe:=qf4 s hs q.dims[i].col q.dims[i].lev;have htl:((dmP s q).take i).length≤3:=by rw[Cz];omega
  simp only[tZ,↓un_u,simprocAttr,Ax,qd hi2];refine⟨oM,?_⟩;refine C1.im hLe rF rF ?_;simp only[tZ,↓un_u,simprocAttr,hwi];refine⟨oM,kR,i+1,oM,oM,?_⟩;rw[hts,By,AW];exact .oA [(4096,some 4096),(4100,some 4100),(1,some 1)] []
 ·have hil:i=q.dims.length:=by omega
  subst hil;rw[← hdl,Bw];refine qk mixm (α:=Nat) [5,39] (fun i=>i≤s.cols.length) (fun i=>[(5,.asl 1 (dmP s q++usP s q i).length),(39,vI i)]) (fun i=>[(4096,.arr 2 [schT s] false),(4100,.arr 17 [qstT q] false),(1,.arr 2 ((dmP s q++usP s q i).map pkT) false)]) (fun i=>s.cols.length-i) 0 oM ?_ fun i hi=>?_
  ·rw[show usP s q 0=[] from rfl,CW];exact .oA [(4096,some 4096),(4100,some 4100),(1,some 1)] []
  have hul:=jU0 s q i;have hus:=zt5 s q i;have hoL:(dmP s q++usP s q i).length≤1000000:=by rw[AW];omega
  refine sD ?_;refine⟨fun h3=>?_,fun h3=>?_⟩
  ·have hi2:i<s.cols.length:=by omega
   have hwi:=qh (i:=i) oM;refine C1.im (qI3 q i oM) rF rF ?_;refine sW ?_;refine⟨fun h4=>?_,fun h4=>?_⟩
   ·rw[Aj h4] at hus;refine C1.im (ZK s hs i) rF rF ?_;refine sW ?_;refine C1.im (qf4 s hs i (finI s i)) rF rF ?_;simp only[tZ,↓un_u,simprocAttr,hwi];refine⟨oM,kR,i+1,oM,oM,?_⟩;rw[hus,← Dj,By,AW (bs:=[_])];exact .oA [(4096,some 4096),(4100,some 4100),(1,some 1)] []
   ·rw[Aq (by rw[h4];simp),CW] at hus;simp only[tZ,↓un_u,simprocAttr,hwi];refine⟨i+1,oM,oM,?_⟩;rw[hus];exact .oA [(4096,some 4096),(4100,some 4100),(1,some 1)] []
  ·have hil:i=s.cols.length:=by omega
   subst hil;rw[qA1 h];unfold zO9 at hbd ⊢
   have hll:(dmP s q++usP s q s.cols.length).length=(dmP s q).length+(usP s q s.cols.length).length:=AW;generalize dmP s q++usP s q s.cols.length=own at hoL hbd hll ⊢
   refine W_le [(2,.ptr 4096 1 0 0),(3,.ptr 4100 1 0 0),(5,vPs own)] [(4096,.arr 2 [schT s] false),(4100,.arr 17 [qstT q] false)] ?_ ?_
   ·exact .oA [(4096,some 4096),(4100,some 4100)] [1]
   refine sW ?_;refine C1.im (qz8 q) rF rF ?_;generalize cnsL q=L at hck hcl hbd ⊢
   refine sW ?_;refine qk mixm (α:=Nat) [9,62] (fun i=>i≤L.length) (fun i=>[(9,.asl 65540 (i+1)),(62,vI i)]) (fun i=>[(4096,.arr 2 [schT s] false),(65540,.arr 1 (vPs own::(L.take i).map fun c=>vPs (zY s c)) false)]) (fun i=>L.length-i) 0 oM ?_ fun i hi=>?_
   ·exact .oA [(4096,some 4096),(65540,some 65540)] []
   have htl:(L.take i).length=i:=by rw[Cz];omega
   refine sD ?_;refine⟨fun h3=>?_,fun h3=>?_⟩
   ·have hi2:i<L.length:=by omega
    have hwi:=qh (i:=i) oM;have hN:=qz7 s hs L[i];simp only[tZ,↓un_u,simprocAttr,Ax,qd hi2,zk];refine⟨oM,?_⟩;refine C1.im hN rF rF ?_;simp only[tZ,↓un_u,simprocAttr,hwi];refine⟨oM,i+1,oM,oM,?_⟩;rw[qJ hi2,By];exact .oA [(4096,some 4096),(65540,some 65540)] []
   ·have hil:i=L.length:=by omega
    subst hil;rw[Bw];have hfl:(own::L.map (zY s)).flatten=own++L.flatMap (zY s):=by rw[List.flatten_cons,List.flatMap_def]
    have hbb:∀ l∈own::L.map (zY s),∀ p∈l,0≤p.col∧p.col<s.cols.length:=fun l hl p hp=>by
     have:=hbd p (by rw[← hfl];exact List.mem_flatten.2 ⟨l,hl,hp⟩);omega
    have hbl:∀ l∈own::L.map (zY s),l.length≤1000:=fun l hl=>by
     rcases Ck.1 hl with e | hl
     ·rw[e];omega
     ·obtain⟨c,_,rfl⟩:=Cj.1 hl;have:=YO s c;omega
    have hM:=Kx (own::L.map (zY s)) s.cols.length oM oM (by rw[CJ,BY];omega) hbl hbb;rw[hfl,List.map_cons,Gz] at hM;refine C1.shut [65540] hM ?_ rF rfl ?_
    ·all_goals (try exact clA)
    refine sW ?_;exact .oA [] []
end Go.Proofs
namespace Go.Proofs
open Go Go.TL
set_option maxRecDepth 4000
set_option maxHeartbeats 8000000
end Go.Proofs
namespace Go.Proofs
open Go Go.TL
set_option maxRecDepth 4000
set_option maxHeartbeats 8000000
theorem jU1 {s:Sch} (hE:schE s=0) {k:Nat} (h1:1≤k) (h2:k<s.cols.length):0≤finI s k:=by
 have hok:=qU hE;have hkk:=za (hok.cs k h2);have h3:=hkk.2.2.1 h1;refine (jw3 hE (v:=k) ?_).2.2.1;rcases (show (qj s k).kind=2∨(qj s k).kind=3 by omega) with h | h
 ·exact .inl (zz.2 ⟨oM,oM,by rw[Ax];exact h⟩)
 ·exact .inr (zz.2 ⟨oM,oM,by rw[Ax];exact h⟩)
end Go.Proofs
namespace Go.Proofs
open Go Go.TL
set_option maxRecDepth 4000
set_option maxHeartbeats 8000000
theorem jH7 {a w:Int}:(a.tmod w==0)=true↔w ∣ a:=by rw[AY];exact⟨Int.dvd_of_tmod_eq_zero,Int.tmod_eq_zero_of_dvd⟩
theorem jH8 {a w:Int} (hw:0<w):qH a w=a / w:=by unfold qH;rw[DW _ oM]
theorem jU2 {w x:Int} (hw:0<w) (hd:w ∣ x):qH x w*w=x:=by
 rw[jH8 hw];exact Int.ediv_mul_cancel hd
theorem zI4 {s:Sch} {i:Nat} (h1:(qj s i).kind=3) {v:Int}:zy s i v=true↔((qj s i).opt=true∧v=zp)∨((qj s i).low≤v∧v≤(qj s i).high):=by
 rw[zy,Aq oM,Aq oM,DZ,Bq,AY,jj]
theorem qt6 {s:Sch} (hok:SchOk s) {i:Nat} (hi:i<s.cols.length) (h2:(qj s i).kind=2) {v:Int}:zy s i v=true↔v∈qO s i:=by
 obtain⟨_,d2⟩:=hok.cdl hi h2;constructor
 ·intro h;rw[zy,Aq oM,Aj h2,Bq,jj,AY] at h;obtain⟨⟨g1,g2⟩,g3⟩:=h;obtain⟨c,rfl⟩:=AJ g1;rw[lvlC,Aq (not_or.2 ⟨fun h=>h d2,oM⟩),Ax] at g3;exact (QZ hok hi h2).2 ⟨c,rfl,oM,g3⟩
 ·intro h;exact Ko h2 d2 h
structure MeasC (s:Sch) (i:Nat):Prop where
 kind:(qj s i).kind=3
 fin:finI s i=(qj s i).widths.length
 wid:∀ l:Nat,1≤l→l≤(qj s i).widths.length→1≤qy (qj s i) l
 one:qy (qj s i) (qj s i).widths.length=1
 lh : -1000000≤(qj s i).low∧(qj s i).low≤(qj s i).high∧(qj s i).high≤1000000
 nw:1≤(qj s i).widths.length
 dv:∀ {o l:Nat},1≤o→o<l→l≤(qj s i).widths.length→∃ k:Int,2≤k∧qy (qj s i) o=k*qy (qj s i) l
theorem zt7 {s:Sch} (hE:schE s=0) {i:Nat} (hi:i<s.cols.length) (h0:0<i) (h2:(qj s i).kind≠2):MeasC s i:=by
 have hok:=qU hE;have hkk:=za (hok.cs i hi);have h3:(qj s i).kind=3:=by have:=hkk.2.2.1 h0;omega
 have hm:=hkk.2.2.2.2 h3;have hwl:1≤(qj s i).widths.length:=by unfold measE at hm;grind
 obtain⟨_,_,_,_,w5,w6,w7,w8⟩:=hok.wid hi h0 h2 (lev:=(qj s i).widths.length) oM;refine⟨h3,by rw[finI,Aq (by rw[hE];omega),Ax,Aq h2],fun l l1 l2=>(hok.wid hi h0 h2 (lev:=l) oM).1,w8,⟨w5,w7,w6⟩,hwl,fun {o l} h4 h5 h6=>hok.wdv hi h0 h2 ⟨h4,h5⟩ h6⟩
theorem jU3 {s:Sch} {i:Nat} (h:MeasC s i) {lev:Nat} (hl:(lev:Int)≤finI s i) {v:Int} (hv:zy s i v=true):qQ s i lev v=if lev=0 then 0 else if v=zp then v else qH v (qy (qj s i) lev)*qy (qj s i) lev:=by
 have h1:=h.lh;have hm:v≠zp→inB v (-1000000) 1000000=true:=fun hn=>by
  rcases (zI4 h.kind).1 hv with k | k
  ·exact absurd k.2 hn
  ·exact jj.2 oM
 rw[qQ,Aq (by rw[Ez,jj];omega),Ax,Aq (by rw[h.kind];decide),Aq (fun k=>by rw[hm k.1] at k;simp at k)];by_cases e:lev=0
 ·subst e;rfl
 ·rw[Aq oM,Aq e]
theorem ka3 {s:Sch} (hE:schE s=0) {i:Nat} (hi:i<s.cols.length) (h0:0<i) (h2:(qj s i).kind≠2) {l:Nat} (l1:1≤l) (l2:l≤(qj s i).widths.length):qy (qj s i) l≤1000000:=((qU hE).wid hi h0 h2 (lev:=l) oM).2.1
theorem jU4 {s:Sch} (hE:schE s=0) {i:Nat} (hi:i<s.cols.length) (h0:0<i) (h2:(qj s i).kind=2) {lev:Nat} (hl:(lev:Int)≤finI s i) {a:Int} (ha:zy s i a=true):∃ c:Nat,a=c∧c<(qK s i).codes.length∧(dep (qK s i).codes c:Int)=zg (qK s i)-1∧qQ s i lev a=upN (qK s i).codes lev c:=by
 have hok:=qU hE;obtain⟨c,rfl,c1,c2⟩:=(QZ hok hi h2).1 ((qt6 hok hi h2).1 ha);have hf:finI s i=zg (qK s i)-1:=by rw[finI,Aq (by rw[hE];omega),Ax,Aj h2]
 exact⟨c,rfl,c1,c2,yS hok hi h2 c1 c2 hl hf⟩
end Go.Proofs
namespace Go.Proofs
open Go Go.TL
set_option maxRecDepth 4000
set_option maxHeartbeats 8000000
end Go.Proofs
namespace Go.Proofs
open Go Go.TL
set_option maxRecDepth 4000
set_option maxHeartbeats 8000000
theorem jO7:∀ {l:List Pk} {p:Pk},p∈l→p.lev≤mxl l p.col
 | q::r,p,h=>by
   rw[mxl];rcases Ck.1 h with e | h
   ·subst e;rw[Aj rfl];omega
   ·have:=jO7 h;split <;> omega
theorem zP0:∀ {l:List Pk} {k:Int},0<mxl l k→∃ p∈l,p.col=k∧p.lev=mxl l k
 | [],k,h=>by rw[mxl] at h;omega
 | p::r,k,h=>by
   rw[mxl] at h ⊢
   by_cases e:p.col=k
   ·rw[Aj e] at h ⊢
    by_cases h2:mxl r k≤p.lev
    ·exact⟨p,sMp,e,oM⟩
    ·obtain⟨x,h3,h4,h5⟩:=zP0 (l:=r) (k:=k) oM;exact⟨x,CQ _ h3,h4,oM⟩
   ·rw[Aq e] at h ⊢
    obtain⟨x,h3,h4,h5⟩:=zP0 (l:=r) (k:=k) h;exact⟨x,CQ _ h3,h4,h5⟩
end Go.Proofs
namespace Go.Proofs
open Go Go.TL
set_option maxRecDepth 4000
set_option maxHeartbeats 8000000
theorem YV (x y:Qst):Spc Tryz.prog 123 [qstT x,.ip (qstT y).cells] [] (vB (eqB x.name y.name)) []:=by
 refine sIr WG fun e _ hst=>?_;unfold jI;refine sW ?_;rw[show (x.name.toList==y.name.toList)=eqB x.name y.name from rfl];exact .oA [] []
theorem ZM (p:Qst→Bool) (f:FuncId) (caps:List T) (hcap:imL caps=true) (l:List Qst) (hf:∀ y∈l,Spc Tryz.prog f (qstT y::caps) [] (vB (p y)) []) (hl:l.length<4611686018427387904) :
 Spc Tryz.prog 187 [.sl 17 (l.map qstT),.clo f caps] [] (vI (idxI p l)) []:=by
 refine sIr QR fun e _ hst=>?_;unfold zO;refine sW ?_;refine qk mixm (α:=Nat) [8] (fun i=>i≤l.length∧((l.take i).any p=false)) (fun i=>[(8,vI i)]) (fun i=>[]) (fun i=>l.length-i) 0 ⟨oM,?_⟩ ?_ fun i hi=>?_
 ·simp
 ·exact .oA [] []
 simp only[tZ,↓un_u,simprocAttr,AZ,Ay];refine⟨fun h=>?_,fun h=>?_⟩
 ·have hi2:i<l.length:=by omega
  have hwi:=qh (i:=i) oM;simp only[tZ,↓un_u,simprocAttr,Ax,qd hi2,hwi,qg0];refine⟨oM,?_⟩;refine C1.im (hf l[i] (AX hi2)) (Kf rfl hcap) rfl ?_;refine sW ?_;refine⟨fun h3=>?_,fun h3=>⟨i+1,⟨oM,jg hi2 hi.2 h3⟩,oM,?_⟩⟩
  ·rw[idxI,Aj (qC0 hi2 h3),kj hi2 hi.2 h3];exact .imR rfl rfl
  ·exact .oA [] []
 ·have h2:i=l.length:=by omega
  have h3:=hi.2;rw[h2,Bw] at h3;rw[idxI,Aq (by rw[h3];simp)];exact .imR rfl rfl
theorem Qh (p:Qst→Bool) (f:FuncId) (caps:List T) (hcap:imL caps=true) (l:List Qst) (hf:∀ y∈l,Spc Tryz.prog f (qstT y::caps) [] (vB (p y)) []) (hl:l.length<4611686018427387904) :
 Spc Tryz.prog 122 [.sl 17 (l.map qstT),.clo f caps] [] (vB (l.any p)) []:=by
 refine sIr yE fun e _ hst=>?_;unfold zt;refine sW ?_;refine C1.im (ZM p f caps hcap l hf hl) (yV rfl hcap) rfl ?_;refine sW ?_;rw[show decide (idxI p l≥0)=l.any p from qN3 p l];exact .imR rfl rfl
theorem ZN (s:Sch) (hs:jo s) (d:Dcl):Spc Tryz.prog 59 [schT s,dclT d] [] (vI (dclE s d)) []:=by
 refine sIr qc2 fun e _ hst=>?_;unfold kD;refine sW ?_;refine C1.im (zS s hs.2.1 hs.1) rF rF ?_;simp only[tZ,↓un_u,simprocAttr,Bj,Aw];refine⟨fun h=>?_,fun h=>?_⟩
 ·rw[dclE,Aj h];exact .oA [] []
 rw[dclE,Aq (by rw[h];simp)];refine C1.im (kg d.proj) rF rF ?_;refine sW ?_;refine C2.im (fun _=>kg d.src) (fun _=>rfl) rF ?_;simp only[tZ,↓un_u,simprocAttr,tD,Bx,Bz];refine⟨fun h2=>?_,fun h2=>?_⟩
 ·rw[Aj h2];exact .oA [] []
 rw[Aq (by rw[h2.1,h2.2];simp)];refine C1.im (jw s hs d.coh) rF rF ?_;simp only[tZ,↓un_u,simprocAttr,Bj,Aw];refine⟨fun h3=>?_,fun h3=>?_⟩
 ·rw[Aj h3];exact .oA [] []
 rw[Aq (by rw[h3];simp)];simp only[tZ,↓un_u,simprocAttr,tD,gt_iff_lt,AY,Ak];refine⟨fun h4=>?_,fun h4=>?_⟩
 ·have:smpE d.smp≠0:=by rw[smpE,Aj oM];simp
  rw[Aj this];exact .oA [] []
 have h5:smpE d.smp=0:=by rw[smpE,Aq oM]
 rw[Aq (by rw[h5];simp)];refine⟨fun h6=>?_,fun h6=>?_⟩
 ·rw[Aj oM];exact .oA [] []
 rw[Aq oM];generalize hE:zl (qsE s d.qs) d.qs.length=E;refine qk mixm (α:=Nat) [80] (fun i=>i≤d.qs.length∧(zl (qsE s d.qs) i=0)) (fun i=>[(80,vI i)]) (fun i=>[(4096,.arr 2 [schT s] false),(4100,.arr 12 [dclT d] false)]) (fun i=>d.qs.length-i) 0 ⟨oM,?_⟩ ?_ fun i hi=>?_
 ·rfl
 ·exact .oA [(4096,some 4096),(4100,some 4100)] []
 simp only[tZ,↓un_u,simprocAttr,AZ,Ay];refine⟨fun h=>?_,fun h=>?_⟩
 ·have hi2:i<d.qs.length:=by omega
  have hpi:qAt d.qs i=d.qs[i]:=by rw[qAt,qg hi2]
  have hstep:=jv hi.2 hi2;have hnext:=zx hi.2;have hA:qsE s d.qs i=if qstE s d.qs[i]≠0 then qstE s d.qs[i] else if ((d.qs.take i).any fun x=>eqB x.name d.qs[i].name)=true then 10 else 0:=by rw[qsE,hpi]
  rw[hE] at hstep;have hQ:=yn s hs d.qs[i];have hCF:=Qh (fun x=>eqB x.name d.qs[i].name) 123 [.ip (qstT d.qs[i]).cells] rfl (d.qs.take i) (fun x _=>YV x d.qs[i]) (by rw[Cz];omega);have hi2:i<d.qs.length:=by omega
  have hwi:=qh (i:=i) oM;simp only[tZ,↓un_u,simprocAttr,Ax,qd hi2,hwi];refine⟨oM,?_⟩;refine C1.im hQ rF rF ?_;simp only[tZ,↓un_u,simprocAttr,Bj,Aw];refine⟨fun h7=>?_,fun h7=>?_⟩
  ·rw[Aj h7] at hA;rw[hstep (by rw[hA];exact h7),hA];exact .oA [] []
  rw[Aq (by rw[h7];simp)] at hA;refine⟨oM,?_⟩;rw[Yd,qN2];refine C1.lend [69644] hCF ?_ rF rF ?_
  ·all_goals (try simp only[tL,simprocAttr,By,List.map_cons,List.map_nil,BW,Cy])
   all_goals (try (repeat' (first | exact qZ | (apply ze;intro _;exact⟨rfl,rfl⟩) | (apply qE;intro _;exact⟨rfl,rfl⟩) | with_reducible apply qV | with_reducible refine qT ⟨rfl,rfl⟩ ?_ | exact qY | with_reducible apply qR | with_reducible refine qW ⟨rfl,rfl,?_⟩ ?_ | with_reducible apply Az | exact qS rfl | exact qS (by assumption) | (refine⟨⟨?_,rfl,?_,rfl,?_⟩,trivial⟩ <;> first | (simp;done) | (apply qE;intro _;exact⟨rfl,rfl⟩)) | trivial | rfl | (rw[qh oM]) | omega)))
   simp only[ltP];exact⟨rfl,by decide,rfl,qT ⟨rfl,rfl⟩ qY⟩
  simp only[tZ,↓un_u,simprocAttr,hwi];refine⟨fun h8=>?_,fun h8=>?_⟩
  ·rw[Aj h8] at hA;rw[hstep (by rw[hA];simp),hA];exact .oA [] []
  ·rw[Aq (by rw[h8];simp)] at hA;refine⟨i+1,⟨oM,by rw[hnext,hA]⟩,oM,?_⟩;exact .oA [(4096,some 4096),(4100,some 4100)] []
 ·have hi2:i=d.qs.length:=by omega
  subst hi2;rw[← hE,hi.2];exact .oA [] []
def jx9 (s:Sch) (qs:List Qst):List Pk:=qs.flatMap (kN s)
theorem zt8 {s:Sch} (q:Qst):∀ p∈kN s q,1≤p.col∧p.col<s.cols.length:=fun p hp=>by
 by_cases h:qstE s q=0
 ·have hq:=qy8 h;rw[qA1 h] at hp;obtain⟨k,k1,k2,rfl⟩:=qb1.1 hp;refine⟨?_,by dsimp only;omega⟩;dsimp only;rcases DQ k with e | e
  ·subst e;rw[qb2 fun q' hq'=>by have:=zt6 hq q' hq';omega] at k2;omega
  ·omega
 ·rw[kN,Aj h] at hp;simp at hp
theorem zj1 {s:Sch} {d:Dcl} (h:dclE s d=0):qq9 s d=canF (fun k=>mxl (jx9 s d.qs) k) s.cols.length:=by
 rw[qq9,Aq (by rw[h];simp)];have key:∀ qs:List Qst,∀ l,qs.foldl (fun l q=>wy l (kN s q)) l=wy l (jx9 s qs):=by
  intro qs
  induction qs with
  | nil=>intro l;rfl
  | cons q r ih=>
    intro l;rw[Dw,ih,← qt5];rfl
 rw[key];refine zI2 fun p hp=>?_;obtain⟨q,hq,hp⟩:=Ek.1 hp;have:=zt8 q p hp;omega
theorem qU3 (s:Sch) (hs:jo s) (d:Dcl) (h:dclE s d=0):Spc Tryz.prog 60 [schT s,dclT d] [] (vPs (qq9 s d)) []:=by
 obtain⟨hE,_,_,_,_,hq1,hq2,_⟩:=qy0 h;have hnc:=(qU hE).nc;rw[zj1 h,jx9,List.flatMap_def];have hbl:∀ l∈d.qs.map (kN s),l.length≤1000:=fun l hl=>by
  obtain⟨q,_,rfl⟩:=Cj.1 hl;have:=qr4 s q;omega
 have hbb:∀ l∈d.qs.map (kN s),∀ p∈l,0≤p.col∧p.col<s.cols.length:=fun l hl p hp=>by
  obtain⟨q,_,rfl⟩:=Cj.1 hl;have:=zt8 q p hp;omega
 have hM:=Kx (d.qs.map (kN s)) s.cols.length oM oM (by rw[BY];omega) hbl hbb;refine sIr qE1 fun e _ hst=>?_;unfold Qm;refine sW ?_;refine qk mixm (α:=Nat) [5,11] (fun i=>i≤d.qs.length) (fun i=>[(5,.asl 1 i),(11,vI i)]) (fun i=>[(4096,.arr 2 [schT s] false),(1,.arr 1 ((d.qs.take i).map fun q=>vPs (kN s q)) false)]) (fun i=>d.qs.length-i) 0 oM ?_ fun i hi=>?_
 ·exact .oA [(4096,some 4096),(1,none)] []
 have htl:(d.qs.take i).length=i:=by rw[Cz];omega
 refine sD ?_;refine⟨fun h3=>?_,fun h3=>?_⟩
 ·have hi2:i<d.qs.length:=by omega
  have hwi:=qh (i:=i) oM;have hN:=qA2 s hs d.qs[i];simp only[tZ,↓un_u,simprocAttr,Ax,qd hi2];refine⟨oM,?_⟩;refine C1.im hN rF rF ?_;simp only[tZ,↓un_u,simprocAttr,hwi];refine⟨oM,i+1,oM,oM,?_⟩;rw[qJ hi2,By];exact .oA [(4096,some 4096),(1,some 1)] []
 ·have hil:i=d.qs.length:=by omega
  subst hil;rw[Bw];rw[Gz] at hM;refine C1.shut [1] hM ?_ rF rfl ?_
  ·all_goals (try exact clA)
  refine sW ?_;exact .oA [] []
theorem qA3 (a b:List Pk) (ha:a.length<4611686018427387904) (hb:b.length<4611686018427387904):Spc Tryz.prog 19 [vPs a,vPs b] [] (vB (covB a b)) []:=by
 refine sIr qm5 fun e _ hst=>?_;unfold wF;refine sW ?_;refine C1.im (qt4 b a hb ha) rF rF ?_;refine sW ?_;exact .oA [] []
theorem zt9 {a b:List Pk}:covB a b=true↔∀ x∈a,∃ y∈b,y.col=x.col∧x.lev≤y.lev:=by
 unfold covB;simp only[Bk,DJ,Bq,AY,AZ]
theorem jy0 {s:Sch} {d:Dcl} (h:dclE s d=0) (l:List Pk) (hl:l.Pairwise fun a b=>a.col<b.col):covB (qq9 s d) l=d.qs.all fun q=>covB (kN s q) l:=by
 rw[Bool.eq_iff_iff,zt9,Bk,zj1 h];constructor
 ·intro H q hq;rw[zt9];intro x hx;have hb:=zt8 q x hx;have hm:x∈jx9 s d.qs:=Ek.2 ⟨q,hq,hx⟩;have hge:=jO7 hm;obtain⟨k,hk⟩:=AJ (show 0≤x.col by omega);rw[hk] at hge;have hx0:0<x.lev:=by
   by_cases hq0:qstE s q=0
   ·rw[qA1 hq0] at hx;obtain⟨_,_,k2,rfl⟩:=qb1.1 hx;exact k2
   ·rw[kN,Aj hq0] at hx;simp at hx
  obtain⟨y,hy,e1,e2⟩:=H ⟨k,mxl (jx9 s d.qs) k⟩ (qb1.2 ⟨k,oM,oM,rfl⟩);exact⟨y,hy,by rw[e1,hk],by dsimp only at e2;omega⟩
 ·intro H x hx;obtain⟨k,k1,k2,rfl⟩:=qb1.1 hx;obtain⟨p,hp,e1,e2⟩:=zP0 k2;obtain⟨q,hq,hp2⟩:=Ek.1 hp;obtain⟨y,hy,e3,e4⟩:=zt9.1 (H q hq) p hp2;exact⟨y,hy,by rw[e3,e1],by dsimp only;omega⟩
theorem jH9 {s:Sch} {d:Dcl} (h:dclE s d=0) {l:List Pk} (hl:yd s l=0):qH5 s d l=if covB (qq9 s d) l=true then 0 else 23:=by
 obtain⟨_,_,hasc⟩:=Kr hl;obtain⟨_,_,_,_,_,_,_,hqs⟩:=qy0 h;rw[qH5,Aq (by rw[h];simp),Aq (by rw[hl];simp),jy0 h l hasc];have hs:∀ i,i<d.qs.length→sufB s (qAt d.qs i) l=covB (kN s (qAt d.qs i)) l:=fun i hi=>by
  rw[sufB,hqs i hi,hl];simp
 by_cases hall:(d.qs.all fun q=>covB (kN s q) l)=true
 ·rw[Aj hall];refine YK fun i hi=>?_;have:=Bk.1 hall (qAt d.qs i) (by rw[qAt,qg hi];exact AX _);rw[hs i hi,this];rfl
 ·rw[Aq hall];refine AQ fun hne=>hall ?_;rw[Bk];intro q hq;obtain⟨i,hi,rfl⟩:=CX hq;have key:∀ n,n≤d.qs.length→(zl (fun i=>if sufB s (qAt d.qs i) l=true then 0 else 23) n=0∨zl (fun i=>if sufB s (qAt d.qs i) l=true then 0 else 23) n=23):=by
   intro n
   induction n with
   | zero=>intro _;exact .inl rfl
   | succ n ih=>
     intro hn;rw[zl];rcases ih oM with e | e
     ·rw[Aq (by rw[e];simp)];split <;> simp
     ·rw[Aj (by rw[e];simp)];exact .inr e
  have h0:=(key _ (BZ _)).resolve_right hne;have:=ww h0 i hi;rw[hs i hi,qAt,qg hi] at this;by_cases e:covB (kN s d.qs[i]) l=true
  ·exact e
  ·rw[Aq e] at this;cases this
theorem qI4 (s:Sch) (hs:jo s) (d:Dcl) (l:List Pk) (hl:l.length<4611686018427387904):Spc Tryz.prog 17 [schT s,dclT d,vPs l] [] (vI (qH5 s d l)) []:=by
 have hpl:=zG2 s d;refine sIr qv1 fun e _ hst=>?_;unfold yw;refine sW ?_;refine C1.im (ZN s hs d) rF rF ?_;simp only[tZ,↓un_u,simprocAttr,Bj,Aw];refine⟨fun h=>?_,fun h=>?_⟩
 ·rw[qH5,Aj h];exact .oA [] []
 refine C1.im (qf3 s hs l hl) rF rF ?_;simp only[tZ,↓un_u,simprocAttr,Bj,Aw];refine⟨fun h2=>?_,fun h2=>?_⟩
 ·rw[qH5,Aq (by rw[h];simp),Aj h2];exact .oA [] []
 rw[jH9 h h2];refine C1.im (qU3 s hs d h) rF rF ?_;refine sW ?_;refine C1.im (qA3 (qq9 s d) l oM hl) rF rF ?_;simp only[tZ,↓un_u,simprocAttr,Bx,Bz];refine⟨fun h3=>?_,fun h3=>?_⟩
 ·rw[Aq (by rw[h3];simp)];exact .oA [] []
 ·rw[Aj h3];exact .oA [] []
end Go.Proofs
namespace Go.Proofs
open Go Go.TL
set_option maxRecDepth 4000
set_option maxHeartbeats 8000000
open So
theorem ze4 (x:Smp):Spc Tryz.prog 210 [smpT x] [] (vI (smpE x)) []:=by
 refine sIr qQ9 fun e _ hst=>?_;unfold Zx;refine sD ?_;refine⟨fun h=>?_,fun h=>?_⟩
 ·rw[smpE,Aj oM];exact .oA [] []
 ·rw[smpE,Aq oM];exact .oA [] []
theorem zu0 (seed id:Int):Spc Tryz.prog 211 [vI seed,vI id] [] (vI (drwI seed id)) []:=by
 refine sIr zd2 fun e _ hst=>?_;unfold JO;refine sW ?_;refine qk mixm (α:=Nat) [5,14] (fun i=>i≤3) (fun i=>[(5,vU64 (iter drwX i (drw0 seed id))),(14,vI i)]) (fun i=>[]) (fun i=>3-i) 0 oM ?_ fun i hi=>?_
 ·exact .oA [] []
 have hwi:=qh (i:=i) oM;refine sD ?_;refine⟨fun h=>?_,fun h=>?_⟩
 ·simp only[tZ,↓un_u,simprocAttr,hwi];refine⟨i+1,oM,oM,?_⟩;show Le _ _ ⟨(5,vU64 (drwX (iter drwX i (drw0 seed id))))::_,_⟩;exact .oA [] []
 ·have:i=3:=by omega
  subst this;exact .oA [] []
theorem zP1 (x:Smp) (id:Int):Spc Tryz.prog 155 [smpT x,vI id] [] (vB (inS x id)) []:=by
 refine sIr zD8 fun e _ hst=>?_;unfold Yw;refine sW ?_;refine C1.im (ze4 x) rF rF ?_;refine sW ?_;refine C2.im (fun _=>zu0 x.seed id) (fun _=>rfl) rF ?_;refine sW ?_;rw[show (smpE x==0&&decide (id≥1)&&decide (id≤1048575)&&decide ((drwI x.seed id).tmod x.of<x.part))=inS x id from rfl];refine⟨fun h=>?_,kR,?_⟩
 ·simp only[tD,AY] at h;have:=h.1.1;unfold smpE at this
  grind
 ·exact .oA [] []
theorem qI5 (s:Sch) (row:List Int) (f:FuncId) (caps:List T) (hcap:imL caps=true) (hf:∀ a,NdOk s a→isAt a=true→Spc Tryz.prog f (cnT a::caps) [] (vI (yb s a (row.getD a.col.toNat 0))) []):∀ (c:Cnd),nodE s c=0→Spc Tryz.prog 212 [cnT c,.clo f caps] [] (vI (evC s row c)) []:=by
 refine Cnd.ind' fun c ih hE=>?_;obtain⟨hE1,hE2⟩:=zO1 hE;have hnd:=zZ1 hE1;have hnk:=hnd.nk;have hop:=hnd.op;rw[jv3];by_cases h1:c.op=1
 ·have q:(c.op==1)=true:=AY.2 h1;rw[Aq (by simp [isAt,h1]),show qj3 c.op _=1 by rw[qj3,Aq oM,Aq oM,Aq oM]];refine sIr jt fun e _ hst=>?_;unfold zw;simp only[tZ,↓un_u,simprocAttr,q];exact .oA [] []
 have q1:(c.op==1)=false:=Ak.2 h1;by_cases h5:c.op=5
 ·have q5:(c.op==5)=true:=AY.2 h5;have hk:c.kids.length=2:=by rw[hnk,h5];rfl
  have k0:0<c.kids.length:=by omega
  have k1:1<c.kids.length:=by omega
  have hS0:=ih _ (AX k0) (hE2 _ (AX k0));have hS1:=ih _ (AX k1) (hE2 _ (AX k1));have g0:=zZ6 s row c.kids[0];have g1:=zZ6 s row c.kids[1];rw[Aq (by simp [isAt,h5]),qj3,Aq oM,Aj h5,qg (by rw[BY];omega),qg (by rw[BY];omega),Fj,Fj];have hm:minI (evC s row c.kids[0]) (evC s row c.kids[1])=min (evC s row c.kids[0]) (evC s row c.kids[1]):=by unfold minI;omega
  refine sIr jt fun e _ hst=>?_;unfold zw;simp only[tZ,↓un_u,simprocAttr,q1,q5,qd k0,qd k1,zk];refine⟨oM,?_⟩;refine C1.im hS0 (yV rfl hcap) rF ?_;simp only[tZ,↓un_u,simprocAttr,qd k1,zk];refine⟨oM,?_⟩;refine C1.im hS1 (yV rfl hcap) rF ?_;simp only[tZ,↓un_u,simprocAttr,hm];refine⟨kR,?_⟩;exact .oA [] []
 have q5:(c.op==5)=false:=Ak.2 h5;by_cases h6:c.op=6
 ·have q6:(c.op==6)=true:=AY.2 h6;have hk:c.kids.length=2:=by rw[hnk,h6];rfl
  have k0:0<c.kids.length:=by omega
  have k1:1<c.kids.length:=by omega
  have hS0:=ih _ (AX k0) (hE2 _ (AX k0));have hS1:=ih _ (AX k1) (hE2 _ (AX k1));rw[Aq (by simp [isAt,h6]),qj3,Aq oM,Aq oM,Aj h6,qg (by rw[BY];omega),qg (by rw[BY];omega),Fj,Fj];have hm:maxI (evC s row c.kids[0]) (evC s row c.kids[1])=max (evC s row c.kids[0]) (evC s row c.kids[1]):=by unfold maxI;omega
  refine sIr jt fun e _ hst=>?_;unfold zw;simp only[tZ,↓un_u,simprocAttr,q1,q5,q6,qd k0,qd k1,zk];refine⟨oM,?_⟩;refine C1.im hS0 (yV rfl hcap) rF ?_;simp only[tZ,↓un_u,simprocAttr,qd k1,zk];refine⟨oM,?_⟩;refine C1.im hS1 (yV rfl hcap) rF ?_;simp only[tZ,↓un_u,simprocAttr,hm];refine⟨kR,?_⟩;exact .oA [] []
 have q6:(c.op==6)=false:=Ak.2 h6;by_cases h7:c.op=7
 ·have q7:(c.op==7)=true:=AY.2 h7;have hk:c.kids.length=1:=by rw[hnk,h7];rfl
  have k0:0<c.kids.length:=by omega
  have hS0:=ih _ (AX k0) (hE2 _ (AX k0));have g0:=zZ6 s row c.kids[0];rw[Aq (by simp [isAt,h7]),qj3,Aj h7,qg (by rw[BY];omega),Fj];have hw:IntKind.i64.wrap ((0:Int)-evC s row c.kids[0]) =-evC s row c.kids[0]:=by rw[AK _ oM];omega
  refine sIr jt fun e _ hst=>?_;unfold zw;simp only[tZ,↓un_u,simprocAttr,q1,q5,q6,q7,qd k0,zk];refine⟨oM,?_⟩;refine C1.im hS0 (yV rfl hcap) rF ?_;simp only[tZ,↓un_u,simprocAttr,hw];exact .oA [] []
 have q7:(c.op==7)=false:=Ak.2 h7;have ha:isAt c=true:=by
  simp only[isAt,tD,AY];omega
 rw[Aj ha];refine sIr jt fun e _ hst=>?_;unfold zw;simp only[tZ,↓un_u,simprocAttr,q1,q5,q6,q7];refine C1.im (hf c hnd ha) (Kf rfl hcap) rfl ?_;refine sW ?_;exact .oA [] []
theorem qA4 (s:Sch) (hok:SchOk s) (row:List Int) (hr:row.length=s.cols.length) (c:Cnd) (hc:nodE s c=0):Spc Tryz.prog 156 [schT s,cnT c,vIs row] [] (vI (evC s row c)) []:=by
 have h1:∀ a,NdOk s a→isAt a=true→Spc Tryz.prog 213 [cnT a,.ip (schT s).cells,.ip [vIs row]] [] (vI (yb s a (row.getD a.col.toNat 0))) []:=fun a ha ha2=>by
  have hb:∃ k,isB s a.col k=true:=by
   simp only[isAt,tD,AY] at ha2;rcases ha2 with (h | h) | h
   ·exact⟨2,(ha.under h).1⟩
   ·exact⟨3,(ha.between h).1⟩
   ·exact⟨3,(ha.miss h).1⟩
  obtain⟨kk,hb⟩:=hb;obtain⟨b1,b2,_⟩:=zz.1 hb;have hil:a.col.toNat<row.length:=by omega
  rw[qg hil];refine sIr qd2 fun e _ hst=>?_;unfold kI;simp only[tZ,↓un_u,simprocAttr,qd hil];refine⟨oM,?_⟩;refine C1.im (Wv s hok a ha ha2 _) rF rF ?_;refine sW ?_;refine⟨kR,?_⟩;exact .oA [] []
 have h2:=qI5 s row 213 [.ip (schT s).cells,.ip [vIs row]] rfl h1 c hc;refine sIr qo8 fun e _ hst=>?_;unfold wR;refine sW ?_;refine C1.lend [4096,4104] h2 ?_ rF rF ?_
 ·all_goals (try simp only[tL,simprocAttr,By,List.map_cons,List.map_nil,BW,Cy])
  all_goals (try (repeat' (first | exact qZ | (apply ze;intro _;exact⟨rfl,rfl⟩) | (apply qE;intro _;exact⟨rfl,rfl⟩) | with_reducible apply qV | with_reducible refine qT ⟨rfl,rfl⟩ ?_ | exact qY | with_reducible apply qR | with_reducible refine qW ⟨rfl,rfl,?_⟩ ?_ | with_reducible apply Az | exact qS rfl | exact qS (by assumption) | (refine⟨⟨?_,rfl,?_,rfl,?_⟩,trivial⟩ <;> first | (simp;done) | (apply qE;intro _;exact⟨rfl,rfl⟩)) | trivial | rfl | (rw[qh oM]) | omega)))
  all_goals (simp only[ltP];exact⟨rfl,by decide,rfl,qT ⟨rfl,rfl⟩ qY⟩)
 refine sW ?_;exact .oA [] []
end Go.Proofs
namespace Go.Proofs
open Go Go.TL
set_option maxRecDepth 4000
set_option maxHeartbeats 8000000
open So
end Go.Proofs
namespace Go.Proofs
open Go Go.TL
set_option maxRecDepth 4000
set_option maxHeartbeats 8000000
open So
end Go.Proofs
namespace Go.Proofs
open Go Go.TL
set_option maxRecDepth 4000
set_option maxHeartbeats 8000000
open So
end Go.Proofs
namespace Go.Proofs
open Go Go.TL
set_option maxRecDepth 4000
section
variable {P:Program} {st:Sto} {e:Env} {kss:List (Nat×List Nat)} {Q:Ex→St→Prop} {K:List KF} {rows:Option (List Nat)} {ks:List Nat} {nid:Nat} {ops:List ROp} {F:XF} {acc:Acc}
theorem C1.cut0 {fid:FuncId} {caps xs ts':List T} {d:Option Nat} {ys zs:List T} {m:Nat} (id nid' k:Nat) (hs:Spc P fid ts' [(0,.arr k zs false)] (.asl 1 m) [(0,.dead),(1,.arr k ys false)]) (hg:TL.get st id=some (.arr k zs false)) (hz:ImXs k zs) (hy:ImXs k ys)
 (hn:TL.get st nid'=none) (ha:ltAs st [(0,some id)] [] (xs++caps) ts')
 (h:R P e kss Q rows ks K nid ops (putX F d (.p (.asl nid' m))) (stUp st [(id,.dead),(nid',.arr k ys false)]) (acc++[([]++[id,nid'],[id,nid'])])):C1 P e kss Q rows ks K (.clo fid caps) xs d nid ops F st acc:=by
 have hne:id≠nid':=fun e=>by subst e;rw[hg] at hn;cases hn
 refine C1.of [(0,some id)] [(nid',some 1)] [] [(id,.dead),(nid',.arr k ys false)] hs ha (by simp [yv,TL.get]) ?_ rF (by simp [TL.get]) ?_ ?_ rF ?_ (.inl rF) h
 ·refine⟨?_,trivial⟩;simp only[TL.get,if_true,ltO2,hg,ltO1];exact⟨trivial,sMp,kK hz,sMp⟩
 ·refine⟨?_,trivial⟩;simp only[TL.get,if_true,wrO,ltO1,Nat.reduceEqDiff,↓reduceIte,reduceCtorEq];exact⟨⟨trivial,sMp,kK hy,sMp⟩,.inl hn⟩
 ·simp [yv,TL.get,hne]
 ·exact⟨by simp [TL.get],rfl⟩
end
end Go.Proofs
namespace Go.Proofs
open Go Go.TL
set_option maxRecDepth 4000
set_option maxHeartbeats 8000000
open So
end Go.Proofs
namespace Go.Proofs
open Go Go.TL
open Go.TL.So
theorem jI0 (k:UInt8):IntKind.i64.wrap (0+IntKind.i64.wrap ((k.toNat:Nat):Int))=(k.toNat:Int):=by
 have h:=k.toNat_lt;rw[AK (k.toNat:Int) oM,AK _ oM];omega
def L8 (n:Nat):Nat:=if n=0 then 0 else Nat.log2 n+1
theorem ka4 (n:Nat) (h:n<256):L8 n≤8∧n<2 ^ L8 n∧(0<n→2 ^ L8 n≤2*n):=by
 unfold L8
 revert n
 decide +kernel
def L16 (n:Nat):Nat:=if n<256 then L8 n else 8+L8 (n / 256)
theorem ka5 (n:Nat) (h:n<65536):L16 n≤16∧n<2 ^ L16 n∧(0<n→2 ^ L16 n≤2*n):=by
 unfold L16;split
 ·rename_i h2;obtain⟨h3,h4,h5⟩:=ka4 n h2;exact⟨oM,h4,h5⟩
 ·rename_i h2;obtain⟨h3,h4,h5⟩:=ka4 (n / 256) oM;rw[Nat.pow_add];have h6:=h5 oM;generalize 2 ^ L8 (n / 256)=p at *
  refine⟨oM,?_,fun _=>?_⟩ <;> omega
set_option maxRecDepth 100000 in
theorem qA5 (n:Nat) (h:n<65536):Spc Tryz.prog 227 [vU64 n] [] (vI (L16 n)) []:=by
 have d1:decide ((n:Int)≥4294967296)=false:=Cq oM;have d2:decide ((n:Int)≥65536)=false:=Cq oM;by_cases h8:n<256
 ·have d3:decide ((n:Int)≥256)=false:=Cq oM;have hw:IntKind.u8.wrap (n:Int)=n:=by rw[IntKind.wrap_u8];omega
  rw[L16,Aj h8];refine sIr ZY fun e _ hst=>?_;unfold jM;simp only[tZ,↓un_u,simprocAttr,d1,d2,d3,hw,Ax,jI0];refine⟨⟨oM,Int.ofNat_lt.2 h8⟩,.imR (congrArg (fun k:Nat=>vI (k:Int)) ?_) rfl⟩;clear d1 d2 d3 hw h;unfold L8
  revert n
  decide +kernel
 ·have d3:decide ((n:Int)≥256)=true:=Cx oM;have hs:shrI .u64 (n:Int) 8=((n / 256:Nat):Int):=by
   simp only[shrI];rw[show min (8:Int).toNat IntKind.u64.bits=8 from rfl,show (2:Int) ^ 8=256 from rfl,DW _ oM];omega
  have hw:IntKind.u8.wrap ((n / 256:Nat):Int)=((n / 256:Nat):Int):=by rw[IntKind.wrap_u8];omega
  have hw2:IntKind.i64.wrap (0+8)=8:=by decide
  rw[L16,Aq h8];refine sIr ZY fun e _ hst=>?_;unfold jM;simp only[tZ,↓un_u,simprocAttr,d1,d2,d3,hs,hw,hw2,Ax];have hm:n / 256<256:=by omega
  refine⟨⟨oM,Int.ofNat_lt.2 hm⟩,.imR (congrArg vI ?_) rfl⟩;clear d1 d2 d3 hw hw2 hs h h8 hst;generalize n / 256=m at *
  unfold L8
  revert m
  decide +kernel
theorem qU4 (n:Nat) (h:n<65536):∃ l:Nat,(l≤16∧n<2 ^ l∧(0<n→2 ^ l≤2*n))∧Spc Tryz.prog 166 [vU64 n] [] (vI l) []:=by
 have hs:=qA5 n h;refine⟨L16 n,ka5 n h,?_⟩;refine sIr qF7 fun e _ hst=>?_;unfold Qw;refine sW ?_;refine C1.im hs rF rF ?_;refine sW ?_;exact .imR rfl rfl
def xs1 (v:Int):Int:=xorI .u64 v (shlI .u64 v 13)
def xs2 (v:Int):Int:=xorI .u64 v (shrI .u64 v 7)
end Go.Proofs
namespace Go.Proofs
open Go Go.TL
open Go.TL.So
set_option maxHeartbeats 2000000
end Go.Proofs
namespace Go.Proofs
open Go Go.TL
set_option maxRecDepth 4000
set_option maxHeartbeats 8000000
open So
end Go.Proofs
namespace Go.Proofs
open Go Go.TL
set_option maxRecDepth 4000
set_option maxHeartbeats 8000000
open So
end Go.Proofs
namespace Go.Proofs
open Go Go.TL
set_option maxRecDepth 4000
set_option maxHeartbeats 4000000
structure DrE (x:Src) (d:Edt):Prop where
 kind:1≤d.kind∧d.kind≤4
 len:d.row.length≤8
 id:0≤d.id∧d.id≤1048575
end Go.Proofs
namespace Go.Proofs
open Go Go.TL
set_option maxRecDepth 4000
set_option maxHeartbeats 8000000
open So
theorem SrcOk.smx {s:Src} (h:SrcOk s):zG6 s:=⟨(qU h.sch).sm,fun r hr=>by
 have h1:=(qj2 (h.rows r hr)).2.1;have h2:=(qU h.sch).nc;omega⟩
structure TwoOk (a b:Ext):Prop where
 pa:a.proj=b.proj
 pk:a.picks=b.picks
 oa:ExtOk a
 ob:ExtOk b
 sa:ExtSm a
 sb:ExtSm b
 na:a.rows.length≤200
 nb:b.rows.length≤200
theorem TwoOk.symm {a b:Ext} (h:TwoOk a b):TwoOk b a:=⟨h.pa.symm,h.pk.symm,h.ob,h.oa,h.sb,h.sa,h.nb,h.na⟩
theorem zP2 (s:Src) (l:List Pk) (k:Int):∀ (m A:List (List Int)),AscR A→(∀ r∈A,r.length=l.length+1)→AscR (m.foldl (ym s l k) A)∧(∀ r∈m.foldl (ym s l k) A,r.length=l.length+1)∧(m.foldl (ym s l k) A).length≤A.length+m.length
 | [],A,h1,h2=>⟨h1,h2,sMp⟩
 | r::m,A,h1,h2=>by
   obtain⟨k1,k2,k3⟩:=zP2 s l k m (ym s l k A r) (zr5 h1) (fun x hx=>by
    rcases (zr6 h1).1 hx with e | ⟨hx,_⟩
    ·rw[e];simp [rowX]
    ·exact h2 x hx)
   have h3:=zr7 A (rowX s l k r);refine⟨k1,k2,?_⟩;have h4:(ym s l k A r).length≤A.length+1:=h3;rw[Dw,CJ];omega
theorem jI1 {s:Src} (h:SrcOk s) (d:Dcl):(ownR s d).length≤200:=by
 have:=h.nr;unfold ownR;split
 ·simp
 ·exact FZ (Fx _ _) h.nr
end Go.Proofs
namespace Go.Proofs
open Go Go.TL
set_option maxRecDepth 4000
set_option maxHeartbeats 8000000
open So
theorem jI2 (x:ByteArray):eqB x x=true:=by
 show (x.toList==x.toList)=true;simp
end Go.Proofs
namespace Go.Proofs
open Go Go.TL
set_option maxRecDepth 4000
set_option maxHeartbeats 8000000
open So
end Go.Proofs
namespace Go.Proofs
open Go Go.TL
set_option maxRecDepth 4000
set_option maxHeartbeats 8000000
open So
end Go.Proofs
namespace Go.Proofs
open Go Go.TL
set_option maxRecDepth 4000
set_option maxHeartbeats 8000000
open So
theorem jO8 {k n:Int} (hk:0≤k∧k<1152921504606846976) (hn:0≤n∧n<1048576):0≤keyI k n∧idI k (keyI k n)=n:=by
 have h1:QL k n=true:=by simp [QL];omega
 have h2:=ZF (s:=k) (YQ hn) 8;have h3:=zH0 h2;have h4:keyI k n=tie (fwd k 8 (cut n)):=by rw[keyI,Aj h1]
 have h5:QL k (keyI k n)=true:=by rw[h4];simp [QL];omega
 refine⟨oM,?_⟩;rw[idI,Aj h5,h4,jS8 h2,jv8 (YQ hn),jS9]
theorem jU5 {k n m:Int} (hk:0≤k∧k<1152921504606846976) (hn:0≤n∧n<1048576) (hm:0≤m∧m<1048576) (h:keyI k n=keyI k m):n=m:=by
 have h1:=(jO8 hk hn).2;have h2:=(jO8 hk hm).2;rw[← h1,← h2,h]
theorem zI5 (s:Src) (l:List Pk) (k:Int):∀ (m A:List (List Int)),AscR A→(m.Pairwise fun a b=>keyI k (hd a)≠keyI k (hd b))→(∀ r∈m,∀ x∈A,hd x≠keyI k (hd r))→
 ∀ x,x∈m.foldl (ym s l k) A↔x∈A∨∃ r∈m,x=rowX s l k r
 | [],A,_,_,_,x=>by simp
 | r::m,A,h1,h2,h3,x=>by
   obtain⟨h4,h5⟩:=List.pairwise_cons.1 h2;have hm:∀ y,y∈ym s l k A r↔y=rowX s l k r∨y∈A:=fun y=>by
    show y∈putR A (rowX s l k r)↔_;rw[zr6 h1];constructor
    ·rintro (a | ⟨a,_⟩)
     ·exact .inl a
     ·exact .inr a
    ·rintro (a | a)
     ·exact .inl a
     ·exact .inr ⟨a,h3 r sMp y a⟩
   rw[Dw,zI5 s l k m (ym s l k A r) (zr5 h1) h5 (fun q hq y hy=>by
    rcases (hm y).1 hy with e | hy
    ·rw[e];exact h4 q hq
    ·exact h3 q (CQ _ hq) y hy),hm]
   constructor
   ·rintro ((a | a) | ⟨q,hq,a⟩)
    ·exact .inr ⟨r,sMp,a⟩
    ·exact .inl a
    ·exact .inr ⟨q,CQ _ hq,a⟩
   ·rintro (a | ⟨q,hq,a⟩)
    ·exact .inl (.inr a)
    ·rcases Ck.1 hq with rfl | hq
     ·exact .inl (.inl a)
     ·exact .inr ⟨q,hq,a⟩
theorem jy1 {s:Src} {d:Dcl} (h:SrcOk s) (hd0:dclE s.sch d=0) (r:List Int):r∈ownR s d↔r∈s.rows∧ownP s d r=true:=by
 unfold ownR;rw[Aq (by rw[YP.2 h,hd0];simp),Fz]
theorem jO9 {s:Src} {d:Dcl} {k:Int} (h:SrcOk s) (hk:0≤k∧k<1152921504606846976):(ownR s d).Pairwise fun a b=>keyI k (hd a)≠keyI k (hd b):=by
 unfold ownR;split
 ·exact List.Pairwise.nil
 ·refine List.Pairwise.filter _ ?_;refine List.Pairwise.imp_of_mem ?_ h.asc;intro a b ha hb hab e;have h1:=jF5 (h.rows a ha);have h2:=jF5 (h.rows b hb);have:=jU5 hk oM oM e;omega
theorem jf5 {s:Src} {d:Dcl} {l:List Pk} {k:Int} (h:SrcOk s) (hd0:dclE s.sch d=0) (hk:0≤k∧k<1152921504606846976) (x:List Int) :
 x∈qr7 s d l k↔∃ r∈s.rows,ownP s d r=true∧x=rowX s l k r:=by
 unfold qr7;rw[zI5 s l k _ [] List.Pairwise.nil (jO9 h hk) sMp];constructor
 ·rintro (a | ⟨r,hr,e⟩)
  ·simp at a
  ·obtain⟨h1,h2⟩:=(jy1 h hd0 r).1 hr;exact⟨r,h1,h2,e⟩
 ·rintro ⟨r,h1,h2,e⟩;exact .inr ⟨r,(jy1 h hd0 r).2 ⟨h1,h2⟩,e⟩
end Go.Proofs
namespace Go.Proofs
open Go Go.TL
set_option maxRecDepth 4000
set_option maxHeartbeats 8000000
end Go.Proofs
namespace Go.Proofs
open Go Go.TL
set_option maxRecDepth 4000
set_option maxHeartbeats 8000000
open So
end Go.Proofs
namespace Go.Proofs
open Go Go.TL
set_option maxRecDepth 4000
set_option maxHeartbeats 8000000
theorem SrcOk.rw {s:Src} (h:SrcOk s):RwId s.rows:=⟨h.asc,fun r hr=>yP (h.rows r hr),fun r hr=>jF5 (h.rows r hr),by have:=h.nr;omega⟩
end Go.Proofs
namespace Go.Proofs
open Go Go.TL
set_option maxRecDepth 4000
set_option maxHeartbeats 8000000
end Go.Proofs
namespace Go.Proofs
open Go Go.TL
set_option maxRecDepth 4000
set_option maxHeartbeats 8000000
end Go.Proofs
namespace Go.Proofs
open Go Go.TL
set_option maxRecDepth 4000
set_option maxHeartbeats 8000000
end Go.Proofs
namespace Go.Proofs
open Go Go.TL
set_option maxRecDepth 4000
set_option maxHeartbeats 8000000
end Go.Proofs
namespace Go.Proofs
open Go Go.TL
set_option maxRecDepth 4000
set_option maxHeartbeats 8000000
open So
theorem jy2 {xs:List (List Int)} {i:Nat} (h:i<xs.length):(xs.map vIs).getD i .junk=vIs (gd xs i):=by rw[zi0 h];exact qd h
theorem jU6 (x y:List Int):repl (vIs x) 0 (vIs y)=vIs y:=rfl
theorem jU7 (x:List Int):(vIs x).cells.getD 0 .junk=vIs x:=rfl
theorem ka6 (xs:List (List Int)) (i:Nat) (v:List Int):(xs.map vIs).set i (vIs v)=(xs.set i v).map vIs:=List.map_set.symm
theorem ka7 (xs:List (List Int)) (i j:Nat):((xs.set i (gd xs j)).set j (gd xs i))=swp xs i j:=rfl
theorem gd_mem {xs:List (List Int)} {i:Nat} (h:i<xs.length):gd xs i∈xs:=by rw[zi0 h];exact AX h
section
variable (cv:List Int→List Int→Int) (P:List Int→Prop) (f:FuncId) (hf:∀ x y,P x→P y→Spc Tryz.prog f [vIs x,vIs y] [] (vI (cv x y)) [])
abbrev ltV (x y:List Int):Bool:=decide (cv x y<0)
include hf in
theorem wz (xs:List (List Int)) (hP:∀ x∈xs,P x) (a b:Nat) (hab:a≤b) (hb:b≤xs.length) (hl:xs.length<4611686018427387904) :
 Spc Tryz.prog 218 [.asl 0 xs.length,vI a,vI b,.clo f []] [(0,.arr 1 (xs.map vIs) false)] (.tup []) [(0,.arr 1 ((insS (ltV cv) xs a b).map vIs) false)]:=by
 have hw:=qh (i:=a) oM;refine sIr wm fun e _ hst=>?_;unfold zj;simp only[tZ,↓un_u,simprocAttr,hw];refine qk mixm (α:=List (List Int)×Nat) [8] (fun q=>q.1.length=xs.length∧a+1≤q.2∧(q.2≤b∨q.2=a+1)∧insF (ltV cv) a (b-q.2) q.2 q.1=insS (ltV cv) xs a b∧∀ x∈q.1,P x) (fun q=>[(8,vI q.2)]) (fun q=>[(0,.arr 1 (q.1.map vIs) false)]) (fun q=>b-q.2) (xs,a+1) ⟨rfl,BZ _,.inr rfl,rfl,hP⟩ ?_ fun q hq=>?_
 ·exact .oA [(0,some 0)] []
 obtain⟨ys,i⟩:=q;obtain⟨h1,h2,h3,h4,hPy⟩:=hq;dsimp only at h1 h2 h3 h4 hPy;simp only[tZ,↓un_u,simprocAttr,AZ,Ay];refine⟨fun h5=>?_,fun h5=>?_⟩
 ·have hi2:i<b:=by omega
  rw[show b-i=(b-(i+1))+1 by omega,insF] at h4;refine qk mixm (α:=List (List Int)×Nat) [9] (fun q=>q.1.length=xs.length∧a≤q.2∧q.2≤i∧insJ (ltV cv) a q.2 q.1=insJ (ltV cv) a i ys∧∀ x∈q.1,P x) (fun q=>[(9,vI q.2)]) (fun q=>[(0,.arr 1 (q.1.map vIs) false)]) (fun q=>q.2) (ys,i) ⟨h1,oM,BZ _,rfl,hPy⟩ ?_ fun q hq=>?_
  ·exact .oA [(0,some 0)] []
  obtain⟨zs,j⟩:=q;obtain⟨g1,g2,g3,g4,hPz⟩:=hq;dsimp only at g1 g2 g3 g4 hPz;by_cases hj:a<j
  ·obtain⟨j,rfl⟩:∃ k,j=k+1:=⟨j-1,oM⟩;have hwj:IntKind.i64.wrap (((j+1:Nat):Int)-1)=(j:Int):=by rw[AK _ oM];omega
   have hd:decide (((j+1:Nat):Int)>a)=true:=by simp;omega
   have hc:=hf (gd zs (j+1)) (gd zs j) (hPz _ (gd_mem oM)) (hPz _ (gd_mem oM));simp only[tZ,↓un_u,simprocAttr,hwj,hd,Ax,jy2 (show j<zs.length by omega),jy2 (show j+1<zs.length by omega)];refine⟨⟨g1,oM,oM⟩,⟨g1,oM⟩,⟨g1,oM,oM⟩,⟨g1,oM⟩,?_⟩;refine C2.one (by trivial) (C1.im hc rF rF ?_);have hsl:(zs.set (j+1) (gd zs j)).length=zs.length:=Fw;simp only[tZ,↓un_u,simprocAttr,hwj,Ax,jy2 (show j<zs.length by omega),jy2 (show j+1<zs.length by omega),jU6,jU7,ka6,jy2 (show j<(zs.set (j+1) (gd zs j)).length by omega),ka7];have hin:insJ (ltV cv) a (j+1) zs=if a<j+1∧ltV cv (gd zs (j+1)) (gd zs j)=true then insJ (ltV cv) a j (swp zs (j+1) j) else zs:=rfl
   refine⟨kR,fun h6=>?_,fun h6=>?_⟩
   ·refine⟨⟨g1,oM,oM⟩,⟨g1,oM⟩,⟨g1,oM,oM⟩,⟨g1,oM⟩,⟨g1,oM,oM⟩,⟨g1,oM⟩,⟨oM,oM,oM⟩,⟨oM,oM⟩,kR,(swp zs (j+1) j,j),⟨by dsimp only;rw[zl8];exact g1,by dsimp only;omega,by dsimp only;omega,?_,fun x hx=>hPz x ((zY0 oM oM).mem_iff.1 hx)⟩,by dsimp only;omega,?_⟩
    ·rw[← g4,hin,Aj ⟨hj,h6⟩]
    ·exact .oA [(0,some 0)] []
   ·rw[hin,Aq (fun e=>by have e2:=e.2;unfold ltV at e2;rw[h6] at e2;cases e2)] at g4;have hwi:=qh (i:=i) oM;refine⟨(zs,i+1),⟨g1,by dsimp only;omega,by dsimp only;omega,?_,hPz⟩,by dsimp only;omega,?_⟩
    ·dsimp only;rw[g4];exact h4
    ·rw[hwi];exact .oA [(0,some 0)] []
  ·have hd:decide ((j:Int)>a)=false:=by simp;omega
   have hwi:=qh (i:=i) oM;have hin:insJ (ltV cv) a j zs=zs:=by
    cases j with
    | zero=>rfl
    | succ j=>unfold insJ;rw[Aq (fun e=>hj e.1)]
   rw[hin] at g4;simp only[tZ,↓un_u,simprocAttr,hd,hwi];refine C2.no (fun h=>h) ?_;simp only[tZ,↓un_u,simprocAttr,hwi];refine⟨kR,(zs,i+1),⟨g1,by dsimp only;omega,by dsimp only;omega,?_,hPz⟩,by dsimp only;omega,?_⟩
   ·dsimp only;rw[g4];exact h4
   ·exact .oA [(0,some 0)] []
 ·rw[show b-i=0 by omega,insF] at h4;rw[← h4];exact .oA [(0,some 0)] []
theorem jP0 {st:Sto} {B:List Nat} (n:Nat) (ts:List T) (h:imAL ts=true):ltAs st [(0,some 0)] B (.asl 0 n::ts) (.asl 0 n::ts):=⟨by simp [ltA,ltC,ltC0,TL.get],Yc h⟩
include hf in
theorem qk3 (xs:List (List Int)) (hP:∀ x∈xs,P x) (lim:Nat) (hl:xs.length≤12) :
 Spc Tryz.prog 165 [.asl 0 xs.length,vI 0,vI xs.length,vI lim,.clo f []] [(0,.arr 1 (xs.map vIs) false)] (.tup []) [(0,.arr 1 ((insS (ltV cv) xs 0 xs.length).map vIs) false)]:=by
 have hw1:IntKind.i64.wrap ((xs.length:Int)-0)=(xs.length:Int):=by rw[AK _ oM];omega
 have hin:=wz cv P f hf xs hP 0 xs.length oM oM oM;refine kW [11,16,18] Qv mixm sMp fun e _ hst=>yu ?_;unfold zH;simp only[Jb,List.contains_cons,List.contains_nil,Nat.reduceBEq,Bool.or_false,Bool.or_true,Bool.true_or,Bool.false_or,cond_true,cond_false];refine sW ?_;refine qk mixm (α:=Unit) [1,2,3,10,11] (fun _=>True) (fun _=>[(1,vI 0),(2,vI xs.length),(3,vI lim),(10,vB true),(11,vB true)]) (fun _=>[(0,.arr 1 (xs.map vIs) false)]) (fun _=>0) () trivial ?_ fun q hq=>?_
 ·exact .oA [(0,some 0)] []
 simp only[tZ,↓un_u,simprocAttr,AZ,Ay,hw1];refine⟨fun h8=>?_,fun h8=>absurd (show (xs.length:Int)≤12 by omega) h8⟩;refine C1.upd 0 1 _ _ hin rF (by apply qE;intro _;exact⟨rfl,rfl⟩) (by apply qE;intro _;exact⟨rfl,rfl⟩) (jP0 _ _ rF) rF ?_;refine sW ?_;exact .oA [(0,some 0)] []
include hf in
theorem WR (xs:List (List Int)) (hP:∀ x∈xs,P x) (hl:xs.length≤12):∃ ys,(ys.Perm xs∧(SWOrd (ltV cv)→Srt (ltV cv) ys 0 xs.length))∧
 Spc Tryz.prog 96 [.asl 0 xs.length,.clo f []] [(0,.arr 1 (xs.map vIs) false)] (.tup []) [(0,.arr 1 (ys.map vIs) false)]:=by
 obtain⟨lim,hlim,hs⟩:=qU4 xs.length oM;refine⟨insS (ltV cv) xs 0 xs.length,⟨(jS1 (ltV cv) xs (Nat.zero_le _) (BZ _)).perm,fun ho=>jE2 ho xs (Nat.zero_le _) (BZ _)⟩,?_⟩;have hu:IntKind.u64.wrap (xs.length:Int)=(xs.length:Int):=by rw[IntKind.wrap_u64];omega
 refine sIr KN fun e _ hst=>?_;unfold jx;simp only[tZ,↓un_u,simprocAttr,hu];refine C1.im hs rF rF ?_;refine sW ?_;refine C1.upd 0 1 _ _ (qk3 cv P f hf xs hP lim hl) rF (by apply qE;intro _;exact⟨rfl,rfl⟩) (by apply qE;intro _;exact⟨rfl,rfl⟩) (jP0 _ _ rF) rF ?_;refine sW ?_;exact .oA [(0,some 0)] []
end
end Go.Proofs
namespace Go.Proofs
open Go Go.TL
set_option maxRecDepth 4000
set_option maxHeartbeats 8000000
open So
def bidV (x y:List Int):Int:=hd x-hd y
theorem jy3 (x y:List Int):ltV bidV x y=decide (hd x<hd y):=by
 unfold ltV bidV;exact decide_eq_decide.2 oM
theorem jU8:SWOrd (ltV bidV):=by
 refine⟨fun x y h=>?_,fun x y z h1 h2=>?_⟩
 ·rw[jy3] at h ⊢
  have:=of_decide_eq_true h;exact Cq oM
 ·rw[jy3] at h1 h2 ⊢
  have k1:=of_decide_eq_false h1;have k2:=of_decide_eq_false h2;exact Cq oM
theorem jU9 {ys:List (List Int)} (h:Srt (ltV bidV) ys 0 ys.length) (hn:∀ i,0<i→i<ys.length→hd (ys.getD i default)≠hd (ys.getD (i-1) default)):AscR ys:=by
 refine jf1 (f:=hd) fun i h0 hi=>?_;have h1:=h (i-1) i oM oM hi;have h2:=hn i h0 hi;have e1:gd ys i=ys.getD i default:=rfl;have e2:gd ys (i-1)=ys.getD (i-1) default:=rfl;unfold lew at h1;rw[e1,e2,jy3] at h1;have:=of_decide_eq_false h1;omega
end Go.Proofs
