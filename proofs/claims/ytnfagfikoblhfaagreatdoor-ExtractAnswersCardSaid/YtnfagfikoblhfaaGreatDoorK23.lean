/- A part of the proof: trees of Go values, short forms, contracts. -/
import Derived.WalkKit
import Derived.Still
import Derived.MapKept
import GoSem.Builtin.Cap
import Derived.Laws.Externs
import GoSem.Extern.SlicesOverlaps
import Derived.Carry
import Derived.ProofKit
import Derived.OpenShut
import Derived.HandedShaped
import Derived.Lay
import Derived.LaidLaws
import Derived.MakeChecks
import Derived.SevenTiedAt
import Derived.Test.YtnfagfikoblhfaaGreatDoorChecked
import Derived.Test.YtnfagfikoblhfaaGreatDoorK22
set_option linter.unusedSimpArgs false
set_option linter.unusedVariables false
namespace Go.Proofs
open Go Go.TL
set_option maxRecDepth 4000
set_option maxHeartbeats 8000000
def mxl:List Pk→Int→Int
 | [],_=>0
 | p::r,k=>if p.col=k then max p.lev (mxl r k) else mxl r k
theorem WA:∀ (l:List Pk) (k:Int),0≤mxl l k
 | [],_=>Int.le_refl _
 | p::r,k=>by
   have:=WA r k;rw[mxl];split <;> omega
theorem zD3:∀ (a b:List Pk) (k:Int),mxl (a++b) k=max (mxl a k) (mxl b k)
 | [],b,k=>by
   have:=WA b k;rw[Cy,mxl];omega
 | p::r,b,k=>by
   have:=zD3 r b k;rw[BW,mxl,mxl,this];split <;> omega
theorem jQ5 (l:List Pk) (p:Pk) (k:Int):mxl (l++[p]) k=if p.col=k then max (mxl l k) p.lev else mxl l k:=by
 have:=WA l k;rw[zD3,mxl,mxl];split <;> omega
theorem WS:∀ {l:List Pk} {k:Int},(∀ p∈l,p.col≠k)→mxl l k=0
 | [],_,_=>rfl
 | p::r,k,h=>by
   rw[mxl,Aq (h p (by simp)),WS fun x hx=>h x (CQ _ hx)]
theorem qX3 {f:Nat→Int} (hf:∀ k,0≤f k):∀ {n:Nat} (k:Nat),mxl (canF f n) k=if k<n then f k else 0
 | 0,k=>by rw[Aq (by omega)];rfl
 | n+1,k=>by
   have ih:=qX3 hf (n:=n) k;have hk:=hf k;have hn:=hf n;rw[canF,zD3,ih];by_cases e:n=k
   ·subst e;rw[Aq (show ¬ n<n by omega),Aj (show n<n+1 by omega)];split
    ·have:mxl [(⟨(n:Nat),f n⟩:Pk)] n=max (f n) 0:=by rw[mxl,Aj rfl];rfl
     rw[this];omega
    ·rw[mxl];omega
   ·have h0:mxl (if 0<f n then [(⟨n,f n⟩:Pk)] else []) k=0:=WS fun p hp=>by
     split at hp
     ·rw[Ey.1 hp];dsimp only;omega
     ·simp at hp
    rw[h0];by_cases h:k<n
    ·rw[Aj h,Aj (by omega)];omega
    ·rw[Aq h,Aq (by omega)];omega
theorem qO3 {n:Nat}:∀ (l:List Pk) {f:Nat→Int},(∀ k,0≤f k)→(∀ p∈l,0≤p.col∧p.col<n)→Qm (canF f n) l=canF (fun k=>max (f k) (mxl l k)) n
 | [],f,hf,_=>by
   show canF f n=_;exact qb2 fun k _=>by have:=hf k;rw[mxl];omega
 | p::r,f,hf,h=>by
   obtain⟨h1,h2⟩:=h p (by simp);obtain⟨c,hc⟩:=AJ h1;have e:Qm (canF f n) (p::r)=Qm (Ks (canF f n) p.col p.lev) r:=rfl;rw[e,hc,zu7 hf (by omega),qO3 r (fun k=>by have:=hf k;unfold upd;split <;> omega) fun x hx=>h x (CQ _ hx)];refine qb2 fun k _=>?_;have:=hf k;have h3:=WA r k;unfold upd;rw[mxl,hc];by_cases e:k=c
   ·subst e;rw[Aj rfl,Aj rfl];omega
   ·rw[Aq e,Aq (by omega)]
theorem jn5 (n:Nat):canF (fun _=>0) n=[]:=zh4 fun _ _=>Int.le_refl _
theorem zQ4 {n:Nat} {l:List Pk} (h:∀ p∈l,0≤p.col∧p.col<n):Qm [] l=canF (fun k=>mxl l k) n:=by
 rw[← jn5 n,qO3 l (fun _=>Int.le_refl _) h];exact qb2 fun k _=>by have:=WA l k;omega
theorem qI3 (a l m:List Pk):Qm a (l++m)=Qm (Qm a l) m:=Gx
theorem zQ5 {α:Type} (f:α→Pk) (m:List α):∀ l,Qm l (m.map f)=m.foldl (fun l x=>Ks l (f x).col (f x).lev) l:=by
 induction m with
 | nil=>intro l;rfl
 | cons x r ih=>intro l;exact ih _
def atP (s:Sch) (c:Cnd):List Pk:=(atsC c).map fun a=>⟨a.col,decN s a⟩
theorem zW9 {s:Sch} {c:Cnd} (h:chkC s c=0):ji s c=Qm [] (atP s c):=by
 rw[ji,Aq (by rw[h];simp),atP,zQ5]
theorem qq3 {s:Sch} {c:Cnd} (h:chkC s c=0):ji s c=canF (fun k=>mxl (atP s c) k) s.cols.length∧∀ p∈atP s c,1≤p.col∧p.col<s.cols.length:=by
 obtain⟨hE,k2,k3,k4⟩:=qy7 h;have hb:∀ p∈atP s c,1≤p.col∧p.col<s.cols.length:=fun p hp=>by
  obtain⟨a,ha,rfl⟩:=Cj.1 hp;obtain⟨hnd,hia⟩:=jh5 c k4 a ha;obtain⟨n1,n2,n3⟩:=qG0 hE hnd hia;obtain⟨_,c1,c2,_⟩:=yY (s:=s) (c:=a.col) (by omega);exact⟨c1,c2⟩
 refine⟨?_,hb⟩;rw[zW9 h];exact zQ4 fun p hp=>by have:=hb p hp;omega
theorem jQ6 {s:Sch} {c:Cnd} (h:chkC s c=0):∀ p∈ji s c,1≤p.col∧p.col<s.cols.length:=fun p hp=>by
 obtain⟨h1,h2⟩:=qq3 h;rw[h1,Kw] at hp;obtain⟨k,k1,k2,rfl⟩:=hp;refine⟨?_,by dsimp only;omega⟩;dsimp only;by_cases e:k=0
 ·subst e;rw[WS fun q hq=>by have:=h2 q hq;omega] at k2;omega
 ·omega
theorem jG2 {s:Sch} {c:Cnd} (h:chkC s c=0) (k:Nat):mxl (ji s c) k=mxl (atP s c) k:=by
 obtain⟨h1,h2⟩:=qq3 h;rw[h1,qX3 fun k=>WA _ _];split
 ·rfl
 ·exact (WS fun q hq=>by have:=h2 q hq;omega).symm
def dmP (s:Sch) (q:Qst):List Pk:=q.dims.map fun d=>⟨d.col,jr s d.col d.lev⟩
def usP (s:Sch) (q:Qst) (n:Nat):List Pk:=((List.range n).filter fun k:Nat=>usB q k).map fun k:Nat=>⟨k,jr s k (finI s k)⟩
theorem zD4 (s:Sch) (q:Qst) (n:Nat):usP s q (n+1)=usP s q n++if usB q n=true then [⟨n,jr s n (finI s n)⟩] else []:=by
 rw[usP,List.range_succ,FY,By,← usP]
 congr 1
 by_cases h:usB q n=true
 ·rw[Aj h,List.filter_cons_of_pos (p:=fun k:Nat=>usB q k) h];rfl
 ·rw[Aq h,List.filter_cons_of_neg (p:=fun k:Nat=>usB q k) h];rfl
theorem ji8 (s:Sch) (q:Qst) (l:List Pk):∀ n:Nat,(List.range n).foldl (Ze s q) l=Qm l (usP s q (n+1))
 | 0=>by
   show l=_;have h0:usB q (0:Nat)=false:=by simp [usB]
   rw[zD4,h0,Aq (by simp)];rfl
 | n+1=>by
   rw[List.range_succ,Gx,ji8 s q l n,zD4 _ _ (n+1),qI3];show Ze s q _ n=_;have h:usB q ((n+1:Nat):Int)=zW1 q ((n:Int)+1):=by
    unfold usB;rw[Cx (by omega),Fq];rfl
   rw[Ze,h];split <;> rfl
def evP (s:Sch) (q:Qst):List Pk:=if q.kind=3 then ji s q.event else []
theorem zX0 {s:Sch} {q:Qst} (h:qstE s q=0):yp s q=Qm (ji s q.filt) (evP s q++dmP s q++usP s q s.cols.length):=by
 have hq:=Wr h;have hnc:=(qO hq.sch).nc;rw[yp,Aq (by rw[h];simp),kb3,ji8,show s.cols.length-1+1=s.cols.length by omega,qI3,qI3,dmP,zQ5,evP]
 congr 2
 split <;> rfl
end Go.Proofs
namespace Go.Proofs
open Go Go.TL
set_option maxRecDepth 4000
set_option maxHeartbeats 8000000
end Go.Proofs
namespace Go.Proofs
open Go Go.TL
set_option maxRecDepth 4000
set_option maxHeartbeats 8000000
def mxc:List Pk→Int
 | []=>0
 | p::r=>max p.col (mxc r)
theorem jG3:∀ l:List Pk,0≤mxc l
 | []=>Int.le_refl _
 | p::r=>by have:=jG3 r;rw[mxc];omega
theorem ji9:∀ (l:List Pk) (p:Pk),mxc (l++[p])=max (mxc l) p.col
 | [],p=>by show max p.col 0=max 0 p.col;omega
 | q::r,p=>by rw[BW,mxc,mxc,ji9 r p];omega
theorem jX3 {n:Int} (hn:0≤n):∀ {l:List Pk},(∀ p∈l,p.col≤n)→mxc l≤n
 | [],_=>hn
 | p::r,h=>by
   have h1:=h p (by simp);have h2:=jX3 hn (l:=r) fun q hq=>h q (CQ _ hq);rw[mxc];omega
theorem jX4:∀ {l:List Pk} {p:Pk},p∈l→p.col≤mxc l
 | q::r,p,h=>by
   rw[mxc];rcases Ck.1 h with e | h
   ·rw[e];omega
   ·have:=jX4 h;omega
theorem qb3 (ls:List (List Pk)) (n:Nat) (h1:1≤n) (h2:n≤1000) (hls:ls.length≤1000) (hl:∀ l∈ls,l.length≤1000) (hb:∀ l∈ls,∀ p∈l,0≤p.col∧p.col<n) :
 Spc Tryz.prog wK [.sl 1 (ls.map vPs)] [] (vPs (canF (fun k=>mxl ls.flatten k) n)) []:=by
 refine qd qD1 mixm (by simp) fun e _ hst=>qh ?_;unfold QP;refine sW ?_;refine qw mixm (α:=Nat×List (Int×Int)) [4,14] (fun y=>y.1≤ls.length∧∀ k,(TL.look TL.eqI k y.2).getD 0=mxl (ls.take y.1).flatten k) (fun y=>[(4,vI (mxc (ls.take y.1).flatten)),(14,vI y.1)]) (fun y=>[(8192,.mp (.ii y.2))]) (fun y=>ls.length-y.1) (0,[]) ⟨by simp,fun k=>rfl⟩ ?_ fun y hy=>?_
 ·exact .oA [(8192,some 8192)] []
 obtain⟨i,M⟩:=y;obtain⟨y1,y2⟩:=hy;dsimp only at y1 y2;refine sD ?_;refine⟨fun h=>?_,fun h=>?_⟩
 ·have hi:i<ls.length:=by omega
  have hwi:=qk (i:=i) (by omega);have hll:=hl _ (AX hi);have hbb:=hb _ (AX hi);have hfl:(ls.take (i+1)).flatten=(ls.take i).flatten++ls[i]:=by rw[qM hi,List.flatten_append];simp
  generalize (ls.take i).flatten=A at y2 hfl ⊢
  simp only[tZ,↓un_u,simprocAttr,Ax,qe hi];refine⟨by omega,?_⟩;generalize ls[i]=l at hll hbb hfl ⊢
  refine qw mixm (α:=Nat×List (Int×Int)) [4,20] (fun y=>y.1≤l.length∧∀ k,(TL.look TL.eqI k y.2).getD 0=mxl (A++l.take y.1) k) (fun y=>[(4,vI (mxc (A++l.take y.1))),(20,vI y.1)]) (fun y=>[(8192,.mp (.ii y.2))]) (fun y=>l.length-y.1) (0,M) ⟨by simp,fun k=>by rw[List.take_zero,CW];exact y2 k⟩ ?_ fun y hy=>?_
  ·refine .of [(8192,some 8192)] [] rfl (by first | rfl | (rw[hst];rfl)) ?_ ?_
   all_goals (try simp only[tL,simprocAttr,By,List.map_cons,List.map_nil,BW,Cy,List.take_zero,CW])
   all_goals (try (repeat' (first | exact ze | (apply zB;intro _;exact⟨rfl,rfl⟩) | (apply qH;intro _;exact⟨rfl,rfl⟩) | with_reducible apply qX | with_reducible refine qT ⟨rfl,rfl⟩ ?_ | exact qY | with_reducible apply qU | with_reducible refine qW ⟨rfl,rfl,?_⟩ ?_ | with_reducible apply Az | exact qV rfl | exact qV (by assumption) | (refine⟨⟨?_,rfl,?_,rfl,?_⟩,trivial⟩ <;> first | (simp;done) | (apply qH;intro _;exact⟨rfl,rfl⟩)) | trivial | rfl | (rw[qk (by omega)]) | omega)))
  obtain⟨j,N⟩:=y;obtain⟨z1,z2⟩:=hy;dsimp only at z1 z2;refine sD ?_;refine⟨fun h5=>?_,fun h5=>?_⟩
  ·have hj:j<l.length:=by omega
   have hwj:=qk (i:=j) (by omega);have hts:A++l.take (j+1)=A++l.take j++[l[j]]:=by rw[qM hj,Dj]
   have hnew:∀ k,(TL.look TL.eqI k (TL.asg TL.eqI l[j].col (max (mxl (A++l.take j) l[j].col) l[j].lev) N)).getD 0=mxl (A++l.take (j+1)) k:=fun k=>by
    rw[qI1,hts,jQ5];by_cases e:k=l[j].col
    ·subst e;rw[Aj rfl,Aj rfl];rfl
    ·rw[Aq e,Aq (fun h=>e h.symm)];exact z2 k
   have hx:=ji9 (A++l.take j) l[j];rw[← hts] at hx;have hz:=z2 l[j].col;simp only[tZ,↓un_u,simprocAttr,Ax,qe hj,hwj,zQ0,hz,← hx];refine⟨by omega,by kernel_rfl,?_⟩;refine⟨(j+1,_),⟨by dsimp only;omega,hnew⟩,by dsimp only;omega,?_⟩;exact .oA [(8192,some 8192)] []
  ·have hjl:j=l.length:=by omega
   subst hjl;rw[Bw,← hfl] at z2 ⊢
   simp only[tZ,↓un_u,simprocAttr,hwi];refine⟨(i+1,N),⟨by dsimp only;omega,z2⟩,by dsimp only;omega,?_⟩;exact .oA [(8192,some 8192)] []
 ·have hil:i=ls.length:=by omega
  subst hil;rw[Bw] at y2 ⊢
  have hbf:∀ p∈ls.flatten,0≤p.col∧p.col<n:=fun p hp=>by
   obtain⟨l,hl,hpl⟩:=List.mem_flatten.1 hp;exact hb l hl p hpl
  have hml:=jX3 (n:=n-1) (by omega) (l:=ls.flatten) fun p hp=>by have:=hbf p hp;omega
  have hmp:=jG3 ls.flatten;have hmore:canF (fun k=>mxl ls.flatten k) n=canF (fun k=>mxl ls.flatten k) ((mxc ls.flatten).toNat+1):=by
   rw[show n=(mxc ls.flatten).toNat+1+(n-((mxc ls.flatten).toNat+1)) by omega,zQ2];intro k hk _;rw[WS fun p hp=>by have:=jX4 hp;omega];exact Int.le_refl _
  rw[hmore];obtain⟨c,hc⟩:=AJ hmp;rw[hc,Ax];have hwc:=qk (i:=c) (by omega);rw[hwc];generalize ls.flatten=A at y2 ⊢
  refine qw mixm (α:=Nat) [9,42] (fun k=>k≤c+1) (fun k=>[(9,.asl 1 (canF (fun k=>mxl A k) k).length),(42,vI k)]) (fun k=>[(8192,.mp (.ii M)),(1,.arr 2 ((canF (fun k=>mxl A k) k).map pkT) false)]) (fun k=>c+1-k) 0 (by omega) ?_ fun k hk=>?_
  ·exact .oA [(8192,some 8192),(1,none)] []
  have hcl:=zD2 (fun k=>mxl A k) k;have hcs:canF (fun k=>mxl A k) (k+1)=canF (fun k=>mxl A k) k++(if 0<mxl A k then [⟨(k:Nat),mxl A k⟩] else []):=by rw[canF]
  have hz:=y2 k;refine sD ?_;refine⟨fun h5=>?_,fun h5=>?_⟩
  ·have hwk:=qk (i:=k) (by omega);simp only[tZ,↓un_u,simprocAttr,hz,hwk,gt_iff_lt,tD];refine⟨fun h6=>?_,fun h6=>?_⟩
   ·rw[Aj h6] at hcs;refine⟨by omega,k+1,by omega,by omega,?_⟩;rw[hcs,By,AW];exact .oA [(8192,some 8192),(1,some 1)] []
   ·rw[Aq h6,CW] at hcs;refine⟨k+1,by omega,by omega,?_⟩;rw[hcs];exact .oA [(8192,some 8192),(1,some 1)] []
  ·rw[show k=c+1 by omega];exact .oA [] [1]
theorem zh5 {s:Sch} {q:Qst} (hq:QstOk s q):∀ d∈q.dims,Ql s d=0∧isB s d.col 2=true:=fun d hd=>by
 by_cases h1:q.kind=1
 ·have h2:=(hq.dims h1).1;unfold Wq at h2;split at h2
  ·cases h2
  obtain⟨i,hi,rfl⟩:=CX hd;have h3:=Qh h2 i hi;have hp:pkAt q.dims i=q.dims[i]:=by rw[pkAt,qg hi]
  unfold dimE at h3;rw[hp] at h3;split at h3
  ·rename_i h4;exact absurd h3 h4
  rename_i h4;split at h3
  ·cases h3
  rename_i h5;exact⟨AQ h4,by simpa using h5⟩
 ·rw[hq.d0 h1] at hd;simp at hd
theorem jG4 {s:Sch} {q:Qst} (hq:QstOk s q):∀ c∈cnsL q,chkC s c=0:=fun c hc=>by
 unfold cnsL at hc;split at hc
 ·rename_i h;rcases Ck.1 hc with e | hc
  ·rw[e];exact hq.filt
  ·rw[Ey.1 hc];exact (hq.event h).2.2
 ·rw[Ey.1 hc];exact hq.filt
theorem zX1 {s:Sch} {q:Qst} {n:Nat} {p:Pk}:p∈usP s q n↔∃ k:Nat,k<n∧usB q k=true∧p=⟨k,jr s k (finI s k)⟩:=by
 unfold usP;simp only[Cj,Fz,Dk];constructor
 ·rintro ⟨k,⟨h1,h2⟩,rfl⟩;exact⟨k,h1,h2,rfl⟩
 ·rintro ⟨k,h1,h2,rfl⟩;exact⟨k,⟨h1,h2⟩,rfl⟩
theorem kc7 (s:Sch) (q:Qst) (n:Nat):(usP s q n).length≤n:=by
 unfold usP;rw[BY];have:=Fx (fun k:Nat=>usB q k) (List.range n);rw[List.length_range] at this;exact this
def qI4 (s:Sch) (q:Qst):List Pk:=dmP s q++usP s q s.cols.length++(cnsL q).flatMap (ji s)
theorem qX4 {s:Sch} {q:Qst} (hq:QstOk s q):∀ p∈qI4 s q,1≤p.col∧p.col<s.cols.length:=fun p hp=>by
 unfold qI4 at hp;rcases Dz.1 hp with hp | hp
 ·rcases Dz.1 hp with hp | hp
  ·obtain⟨d,hd,rfl⟩:=Cj.1 hp;obtain⟨_,h1,h2,_⟩:=Jb (zh5 hq d hd).1;exact⟨h1,h2⟩
  ·obtain⟨k,h1,h2,rfl⟩:=zX1.1 hp;unfold usB at h2;rw[Bq,AZ] at h2;exact⟨by dsimp only;omega,by dsimp only;omega⟩
 ·obtain⟨c,hc,hp⟩:=Ek.1 hp;exact jQ6 (jG4 hq c hc) p hp
theorem qq4 {s:Sch} {q:Qst} (h:qstE s q=0):yp s q=canF (fun k=>mxl (qI4 s q) k) s.cols.length:=by
 have hq:=Wr h;have hb:=qX4 hq;obtain⟨n1,n2⟩:=qq3 hq.filt;rw[zX0 h,n1,qO3 _ (fun k=>WA _ _) fun p hp=>?_]
 ·refine qb2 fun k _=>?_;rw[← jG2 hq.filt k];have e:(cnsL q).flatMap (ji s)=ji s q.filt++evP s q:=by
   unfold cnsL evP;split <;> simp
  rw[qI4,e];simp only[zD3];omega
 ·have:p∈qI4 s q:=by
   unfold qI4;have e:(cnsL q).flatMap (ji s)=ji s q.filt++evP s q:=by
    unfold cnsL evP;split <;> simp
   rw[e];simp only[Dz] at hp ⊢
   rcases hp with (h | h) | h
   ·exact .inr (.inr h)
   ·exact .inl (.inl h)
   ·exact .inl (.inr h)
  have:=hb p this;omega
theorem qO4 (s:Sch) (hs:yX s) (q:Qst):Spc Tryz.prog Zt [schT s,qstT q] [] (vPs (yp s q)) []:=by
 refine KG [15] qC3 mixm (by simp) fun e _ hst=>qh ?_;unfold QL;simp only[qb9,List.contains_cons,List.contains_nil,Nat.reduceBEq,Bool.or_false,Bool.or_true,Bool.true_or,Bool.false_or,cond_true,cond_false];refine sW ?_;refine C1.im (Zn s hs q) (by rfl) (by rfl) ?_;simp only[tZ,↓un_u,simprocAttr,Bj,Aw];refine⟨fun h=>?_,fun h=>?_⟩
 ·rw[yp,Aj h];exact .oA [] []
 have hq:=Wr h;have hok:=qO hq.sch;have hnc:=hok.nc;have hnd:=hq.nd;have hnt:=hq.nt;have hck:=jG4 hq;have hcl:(cnsL q).length≤2:=by unfold cnsL;split <;> simp
 have hdl:(dmP s q).length=q.dims.length:=BY _;have hbd:=qX4 hq;refine qw mixm (α:=Nat) [5,19] (fun i=>i≤q.dims.length) (fun i=>[(5,.asl 1 ((dmP s q).take i).length),(19,vI i)]) (fun i=>[(4096,.arr 2 [schT s] false),(4100,.arr 17 [qstT q] false),(1,.arr 2 (((dmP s q).take i).map pkT) false)]) (fun i=>q.dims.length-i) 0 (by omega) ?_ fun i hi=>?_
 ·exact .oA [(4096,some 4096),(4100,some 4100),(1,none)] []
 refine sD ?_;refine⟨fun h3=>?_,fun h3=>?_⟩
 ·have hi2:i<q.dims.length:=by omega
  have hwi:=qk (i:=i) (by omega);have hts:(dmP s q).take (i+1)=(dmP s q).take i++[⟨q.dims[i].col,jr s q.dims[i].col q.dims[i].lev⟩]:=by
   rw[qM (by omega)];simp only[dmP,Fj]
  have hLe:=qu4 s hs q.dims[i].col q.dims[i].lev;have htl:((dmP s q).take i).length≤3:=by rw[Cz];omega
  simp only[tZ,↓un_u,simprocAttr,Ax,qe hi2];refine⟨by omega,?_⟩;refine C1.im hLe (by rfl) (by rfl) ?_;simp only[tZ,↓un_u,simprocAttr,hwi];refine⟨by omega,by kernel_rfl,i+1,by omega,by omega,?_⟩;rw[hts,By,AW];exact .oA [(4096,some 4096),(4100,some 4100),(1,some 1)] []
 ·have hil:i=q.dims.length:=by omega
  subst hil;rw[← hdl,Bw];refine qw mixm (α:=Nat) [5,39] (fun i=>i≤s.cols.length) (fun i=>[(5,.asl 1 (dmP s q++usP s q i).length),(39,vI i)]) (fun i=>[(4096,.arr 2 [schT s] false),(4100,.arr 17 [qstT q] false),(1,.arr 2 ((dmP s q++usP s q i).map pkT) false)]) (fun i=>s.cols.length-i) 0 (by omega) ?_ fun i hi=>?_
  ·rw[show usP s q 0=[] from rfl,CW];exact .oA [(4096,some 4096),(4100,some 4100),(1,some 1)] []
  have hul:=kc7 s q i;have hus:=zD4 s q i;have hoL:(dmP s q++usP s q i).length≤1000000:=by rw[AW];omega
  refine sD ?_;refine⟨fun h3=>?_,fun h3=>?_⟩
  ·have hi2:i<s.cols.length:=by omega
   have hwi:=qk (i:=i) (by omega);refine C1.im (qV9 q i (by omega)) (by rfl) (by rfl) ?_;refine sW ?_;refine⟨fun h4=>?_,fun h4=>?_⟩
   ·rw[Aj h4] at hus;refine C1.im (Wy s hs i) (by rfl) (by rfl) ?_;refine sW ?_;refine C1.im (qu4 s hs i (finI s i)) (by rfl) (by rfl) ?_;simp only[tZ,↓un_u,simprocAttr,hwi];refine⟨by omega,by kernel_rfl,i+1,by omega,by omega,?_⟩;rw[hus,← Dj,By,AW (bs:=[_])];exact .oA [(4096,some 4096),(4100,some 4100),(1,some 1)] []
   ·rw[Aq (by rw[h4];simp),CW] at hus;simp only[tZ,↓un_u,simprocAttr,hwi];refine⟨i+1,by omega,by omega,?_⟩;rw[hus];exact .oA [(4096,some 4096),(4100,some 4100),(1,some 1)] []
  ·have hil:i=s.cols.length:=by omega
   subst hil;rw[qq4 h];unfold qI4 at hbd ⊢
   have hll:(dmP s q++usP s q s.cols.length).length=(dmP s q).length+(usP s q s.cols.length).length:=AW;generalize dmP s q++usP s q s.cols.length=own at hoL hbd hll ⊢
   refine W_le [(2,.ptr 4096 1 0 0),(3,.ptr 4100 1 0 0),(5,vPs own)] [(4096,.arr 2 [schT s] false),(4100,.arr 17 [qstT q] false)] ?_ ?_
   ·exact .oA [(4096,some 4096),(4100,some 4100)] [1]
   refine sW ?_;refine C1.im (qO2 q) (by rfl) (by rfl) ?_;generalize cnsL q=L at hck hcl hbd ⊢
   refine sW ?_;refine qw mixm (α:=Nat) [9,62] (fun i=>i≤L.length) (fun i=>[(9,.asl 65540 (i+1)),(62,vI i)]) (fun i=>[(4096,.arr 2 [schT s] false),(65540,.arr 1 (vPs own::(L.take i).map fun c=>vPs (ji s c)) false)]) (fun i=>L.length-i) 0 (by omega) ?_ fun i hi=>?_
   ·exact .oA [(4096,some 4096),(65540,some 65540)] []
   have htl:(L.take i).length=i:=by rw[Cz];omega
   refine sD ?_;refine⟨fun h3=>?_,fun h3=>?_⟩
   ·have hi2:i<L.length:=by omega
    have hwi:=qk (i:=i) (by omega);have hN:=qO1 s hs L[i];simp only[tZ,↓un_u,simprocAttr,Ax,qe hi2,zw];refine⟨by omega,?_⟩;refine C1.im hN (by rfl) (by rfl) ?_;simp only[tZ,↓un_u,simprocAttr,hwi];refine⟨by omega,i+1,by omega,by omega,?_⟩;rw[qM hi2,By];exact .oA [(4096,some 4096),(65540,some 65540)] []
   ·have hil:i=L.length:=by omega
    subst hil;rw[Bw];have hfl:(own::L.map (ji s)).flatten=own++L.flatMap (ji s):=by rw[List.flatten_cons,List.flatMap_def]
    have hbb:∀ l∈own::L.map (ji s),∀ p∈l,0≤p.col∧p.col<s.cols.length:=fun l hl p hp=>by
     have:=hbd p (by rw[← hfl];exact List.mem_flatten.2 ⟨l,hl,hp⟩);omega
    have hbl:∀ l∈own::L.map (ji s),l.length≤1000:=fun l hl=>by
     rcases Ck.1 hl with e | hl
     ·rw[e];omega
     ·obtain⟨c,_,rfl⟩:=Cj.1 hl;have:=qn6 s c;omega
    have hM:=qb3 (own::L.map (ji s)) s.cols.length (by omega) (by omega) (by rw[CJ,BY];omega) hbl hbb;rw[hfl,List.map_cons,Gz] at hM;refine C1.shut [65540] hM ?_ (by rfl) rfl ?_
    ·all_goals (try exact clA)
    refine sW ?_;exact .oA [] []
end Go.Proofs
namespace Go.Proofs
open Go Go.TL
set_option maxRecDepth 4000
set_option maxHeartbeats 8000000
theorem jG5 {s:Sch} {l:List Pk} (hE:schE s=0) (h1:∀ p∈l,Ql s p=0) (h2:l.Pairwise fun a b=>a.col<b.col):kY s l=0:=by
 rw[kY,Aq (by rw[hE];simp)];refine Wp fun i hi=>?_;have hp:pkAt l i=l[i]:=by rw[pkAt,qg hi]
 rw[zu0,hp,Aq (by rw[h1 _ (AX hi)];simp),Aq];rintro ⟨h3,h4⟩;rw[pkAt,qg (by omega)] at h4;have:=DX.1 h2 (i-1) i (by omega) hi (by omega);omega
end Go.Proofs
namespace Go.Proofs
open Go Go.TL
set_option maxRecDepth 4000
set_option maxHeartbeats 8000000
theorem jj0 (f:Nat→Int):∀ n,((canF f n).Pairwise fun a b=>a.col<b.col)∧∀ p∈canF f n,p.col<n
 | 0=>⟨List.Pairwise.nil,by simp [canF]⟩
 | n+1=>by
   obtain⟨h1,h2⟩:=jj0 f n;rw[canF];split
   ·refine⟨List.pairwise_append.2 ⟨h1,by simp,fun p hp q hq=>?_⟩,fun p hp=>?_⟩
    ·rw[Ey.1 hq];exact h2 p hp
    ·rcases Dz.1 hp with hp | hp
     ·have:=h2 p hp;omega
     ·rw[Ey.1 hp];dsimp only;omega
   ·rw[CW];exact⟨h1,fun p hp=>by have:=h2 p hp;omega⟩
theorem kc8 {s:Sch} (hE:schE s=0) {c:Nat} (h1:1≤c) (h2:c<s.cols.length) {v:Int} (h3:0≤v) (h4:v≤finI s c):Ql s ⟨c,v⟩=0:=by
 rw[Ql,Aq (by rw[hE];simp),Aq (by dsimp only;omega),Aq];rw[Ez,wB];exact⟨h3,h4⟩
theorem jn6 {s:Sch} (hE:schE s=0) {f:Nat→Int} (h:∀ k,k<s.cols.length→0<f k→1≤k∧f k≤finI s k):kY s (canF f s.cols.length)=0:=by
 refine jG5 hE (fun p hp=>?_) (jj0 f _).1;obtain⟨k,k1,k2,rfl⟩:=Kw.1 hp;obtain⟨h1,h2⟩:=h k k1 k2;exact kc8 hE h1 k1 (by omega) h2
theorem jX5 {l:List Pk} {k F:Int} (hF:0≤F) (h:∀ p∈l,p.col=k→p.lev≤F):mxl l k≤F:=by
 induction l with
 | nil=>exact hF
 | cons p r ih=>
   have h1:=ih fun q hq=>h q (CQ _ hq);rw[mxl];split
   ·rename_i e;have:=h p (by simp) e;omega
   ·exact h1
theorem zh6 {s:Sch} {c lev:Int} (h:0≤lev) (h2:lev≤finI s c):jr s c lev≤lev∧0≤jr s c lev∧divB s c.toNat (jr s c lev).toNat lev.toNat=true∧∀ m:Nat,(m:Int)<jr s c lev→divB s c.toNat m lev.toNat=false:=by
 have h59:lev≤59∨schE s≠0:=by
  by_cases e:schE s=0
  ·have:=qn4 (c:=c) e;exact .inl (by omega)
  ·exact .inr e
 have hE:schE s=0:=(yY (s:=s) (c:=c) (by omega)).1;have h59:=qn4 (c:=c) hE;rw[jr,Aq (by rw[Ez,wB];omega)];obtain⟨a,b,_,d⟩:=qy5 (p:=fun n=>divB s c.toNat n lev.toNat) (N:=lev.toNat) (zA8 s _ _) 64 0 (by omega) (by omega);refine⟨by omega,by omega,by rw[Ax];exact a,fun m hm=>d m (by omega) (by omega)⟩
theorem qo2 {s:Sch} (hE:schE s=0) {k:Nat} (h1:1≤k) (h2:k<s.cols.length):0≤finI s k:=by
 have hok:=qO hE;have hkk:=qZ (hok.cs k h2);have h3:=hkk.2.2.1 h1;refine (jF0 hE (v:=k) ?_).2.2.1;rcases (show (qj s k).kind=2∨(qj s k).kind=3 by omega) with h | h
 ·exact .inl (zH.2 ⟨by omega,by omega,by rw[Ax];exact h⟩)
 ·exact .inr (zH.2 ⟨by omega,by omega,by rw[Ax];exact h⟩)
theorem kc9 {s:Sch} {c:Cnd} (h:chkC s c=0):∀ p∈atP s c,p.lev≤finI s p.col:=fun p hp=>by
 obtain⟨hE,k2,k3,k4⟩:=qy7 h;obtain⟨a,ha,rfl⟩:=Cj.1 hp;obtain⟨hnd,hia⟩:=jh5 c k4 a ha;exact (qG0 hE hnd hia).1
theorem jG6 {s:Sch} {c:Cnd} (h:chkC s c=0):∀ p∈ji s c,p.lev≤finI s p.col:=fun p hp=>by
 have hE:=(qy7 h).1;obtain⟨h1,h2⟩:=qq3 h;rw[h1,Kw] at hp;obtain⟨k,k1,k2,rfl⟩:=hp;have h0:1≤k:=by
  rcases DQ k with e | e
  ·subst e;rw[WS fun q hq=>by have:=h2 q hq;omega] at k2;omega
  ·exact e
 exact jX5 (qo2 hE h0 k1) fun p hp e=>by rw[← e];exact kc9 h p hp
theorem jG7 {s:Sch} {q:Qst} (hq:QstOk s q):∀ p∈qI4 s q,p.lev≤finI s p.col:=fun p hp=>by
 unfold qI4 at hp;rcases Dz.1 hp with hp | hp
 ·rcases Dz.1 hp with hp | hp
  ·obtain⟨d,hd,rfl⟩:=Cj.1 hp;obtain⟨_,h1,h2,h3,h4⟩:=Jb (zh5 hq d hd).1;have:=zh6 h3 h4;dsimp only;omega
  ·obtain⟨k,h1,h2,rfl⟩:=zX1.1 hp;unfold usB at h2;rw[Bq,AZ] at h2;have h3:=qo2 hq.sch (k:=k) (by omega) h1;have:=zh6 h3 (Int.le_refl _);dsimp only;omega
 ·obtain⟨c,hc,hp⟩:=Ek.1 hp;exact jG6 (jG4 hq c hc) p hp
end Go.Proofs
namespace Go.Proofs
open Go Go.TL
set_option maxRecDepth 4000
set_option maxHeartbeats 8000000
theorem qI5 {a w:Int} (hw:0<w):qA a w=a / w:=by unfold qA;rw[DW _ (by omega)]
theorem jX6 {w x a:Int} (hw:0<w) (hd:w ∣ x):x≤a↔x≤qA a w*w:=by
 obtain⟨t,rfl⟩:=hd;have h:=yq (v:=a) hw;rw[qI5 hw] at h ⊢
 generalize a / w=u at h ⊢
 constructor
 ·intro h1;have h2:w*t<w*(u+1):=by rw[Int.mul_add,Int.mul_one,Int.mul_comm w u];omega
  have h3:=Int.lt_of_mul_lt_mul_left h2 (by omega);rw[Int.mul_comm u w];exact Int.mul_le_mul_of_nonneg_left (by omega) (by omega)
 ·intro h1;omega
theorem kd0 {w x a b:Int} (hw:0<w) (hd:w ∣ x) (h:qA a w*w=qA b w*w):x≤a↔x≤b:=(jX6 hw hd).trans (by rw[h];exact (jX6 hw hd).symm)
theorem kd1 {w x:Int} (hw:0<w) (hd:w ∣ x):qA x w*w=x:=by
 rw[qI5 hw];exact Int.ediv_mul_cancel hd
theorem qb4 {s:Sch} {i:Nat} (h1:(qj s i).kind=3) {v:Int}:qS s i v=true↔((qj s i).opt=true∧v=zz)∨((qj s i).low≤v∧v≤(qj s i).high):=by
 rw[qS,Aq (by omega),Aq (by omega),DZ,Bq,AY,wB]
theorem Jl {s:Sch} (hok:SchOk s) {i:Nat} (hi:i<s.cols.length) (h2:(qj s i).kind=2) {v:Int}:qS s i v=true↔v∈qJ s i:=by
 obtain⟨_,d2⟩:=hok.cdl hi h2;constructor
 ·intro h;rw[qS,Aq (by omega),Aj h2,Bq,wB,AY] at h;obtain⟨⟨g1,g2⟩,g3⟩:=h;obtain⟨c,rfl⟩:=AJ g1;rw[lvlC,Aq (not_or.2 ⟨fun h=>h d2,by omega⟩),Ax] at g3;exact (KA hok hi h2).2 ⟨c,rfl,by omega,g3⟩
 ·intro h;exact qa4 h2 d2 h
structure MeasC (s:Sch) (i:Nat):Prop where
 kind:(qj s i).kind=3
 fin:finI s i=(qj s i).widths.length
 wid:∀ l:Nat,1≤l→l≤(qj s i).widths.length→1≤qD (qj s i) l
 one:qD (qj s i) (qj s i).widths.length=1
 lh : -1000000≤(qj s i).low∧(qj s i).low≤(qj s i).high∧(qj s i).high≤1000000
 nw:1≤(qj s i).widths.length
 dv:∀ {o l:Nat},1≤o→o<l→l≤(qj s i).widths.length→∃ k:Int,2≤k∧qD (qj s i) o=k*qD (qj s i) l
theorem qg1 {s:Sch} (hE:schE s=0) {i:Nat} (hi:i<s.cols.length) (h0:0<i) (h2:(qj s i).kind≠2):MeasC s i:=by
 have hok:=qO hE;have hkk:=qZ (hok.cs i hi);have h3:(qj s i).kind=3:=by have:=hkk.2.2.1 h0;omega
 have hm:=hkk.2.2.2.2 h3;have hwl:1≤(qj s i).widths.length:=by unfold measE at hm;grind
 obtain⟨_,_,_,_,w5,w6,w7,w8⟩:=hok.wid hi h0 h2 (lev:=(qj s i).widths.length) (by omega);refine⟨h3,by rw[finI,Aq (by rw[hE];omega),Ax,Aq h2],fun l l1 l2=>(hok.wid hi h0 h2 (lev:=l) (by omega)).1,w8,⟨w5,w7,w6⟩,hwl,fun {o l} h4 h5 h6=>hok.wdv hi h0 h2 ⟨h4,h5⟩ h6⟩
theorem zh7 {s:Sch} {i:Nat} (h:MeasC s i) {lev:Nat} (hl:(lev:Int)≤finI s i) {v:Int} (hv:qS s i v=true):qu s i lev v=if lev=0 then 0 else if v=zz then v else qA v (qD (qj s i) lev)*qD (qj s i) lev:=by
 have h1:=h.lh;have hm:v≠zz→inB v (-1000000) 1000000=true:=fun hn=>by
  rcases (qb4 h.kind).1 hv with k | k
  ·exact absurd k.2 hn
  ·exact wB.2 (by omega)
 rw[qu,Aq (by rw[Ez,wB];omega),Ax,Aq (by rw[h.kind];decide),Aq (fun k=>by rw[hm k.1] at k;simp at k)];by_cases e:lev=0
 ·subst e;rfl
 ·rw[Aq (by omega),Aq e]
theorem jQ7 {v w:Int} (hw:1≤w) (hw2:w≤1000000) (hv : -1000000≤v):qA v w*w≠zz:=by
 have:=yq (v:=v) (w:=w) (by omega);unfold zz;omega
theorem jj1 {s:Sch} (hE:schE s=0) {i:Nat} (hi:i<s.cols.length) (h0:0<i) (h2:(qj s i).kind≠2) {l:Nat} (l1:1≤l) (l2:l≤(qj s i).widths.length):qD (qj s i) l≤1000000:=((qO hE).wid hi h0 h2 (lev:=l) (by omega)).2.1
theorem zD5 {s:Sch} (hE:schE s=0) {i:Nat} (hi:i<s.cols.length) (h0:0<i) (h2:(qj s i).kind≠2) {lev:Nat} (h1:1≤lev) (hl:(lev:Int)≤finI s i) {a b:Int} (ha:qS s i a=true) (hb:qS s i b=true) :
 qu s i lev a=qu s i lev b↔(a=zz∧b=zz)∨(a≠zz∧b≠zz∧qA a (qD (qj s i) lev)*qD (qj s i) lev=qA b (qD (qj s i) lev)*qD (qj s i) lev):=by
 have hm:=qg1 hE hi h0 h2;have hlh:=hm.lh;have hf:=hm.fin;have hw:=hm.wid lev h1 (by omega);have hw2:=jj1 hE hi h0 h2 h1 (by omega);rw[zh7 hm hl ha,zh7 hm hl hb,Aq (show ¬ lev=0 by omega),Aq (show ¬ lev=0 by omega)];have na:a≠zz→-1000000≤a:=fun hn=>by
  rcases (qb4 hm.kind).1 ha with k | k
  ·exact absurd k.2 hn
  ·omega
 have nb:b≠zz→-1000000≤b:=fun hn=>by
  rcases (qb4 hm.kind).1 hb with k | k
  ·exact absurd k.2 hn
  ·omega
 by_cases ea:a=zz
 ·by_cases eb:b=zz
  ·rw[Aj ea,Aj eb];simp [ea,eb]
  ·rw[Aj ea,Aq eb];have:=jQ7 hw hw2 (nb eb);constructor
   ·intro h;rw[ea] at h;exact absurd h.symm this
   ·rintro (h | h)
    ·exact absurd h.2 eb
    ·exact absurd ea h.1
 ·by_cases eb:b=zz
  ·rw[Aq ea,Aj eb];have:=jQ7 hw hw2 (na ea);constructor
   ·intro h;rw[eb] at h;exact absurd h this
   ·rintro (h | h)
    ·exact absurd h.1 ea
    ·exact absurd eb h.2.1
  ·rw[Aq ea,Aq eb];constructor
   ·intro h;exact .inr ⟨ea,eb,h⟩
   ·rintro (h | h)
    ·exact absurd h.1 ea
    ·exact h.2.2
theorem zh8 {s:Sch} (hE:schE s=0) {i:Nat} (hi:i<s.cols.length) (h0:0<i) (h2:(qj s i).kind≠2) {a:Int} (ha:qS s i a=true):qu s i 0 a=0:=by
 have hm:=qg1 hE hi h0 h2;have:=zh7 hm (lev:=0) (by rw[hm.fin];omega) ha;rw[Aj rfl] at this;exact this
theorem zX2 {s:Sch} (hE:schE s=0) {i:Nat} (hi:i<s.cols.length) (h0:0<i) (h2:(qj s i).kind=2) {lev:Nat} (hl:(lev:Int)≤finI s i) {a:Int} (ha:qS s i a=true):∃ c:Nat,a=c∧c<(qK s i).codes.length∧(dep (qK s i).codes c:Int)=zk (qK s i)-1∧qu s i lev a=upN (qK s i).codes lev c:=by
 have hok:=qO hE;obtain⟨c,rfl,c1,c2⟩:=(KA hok hi h2).1 ((Jl hok hi h2).1 ha);have hf:finI s i=zk (qK s i)-1:=by rw[finI,Aq (by rw[hE];omega),Ax,Aj h2]
 exact⟨c,rfl,c1,c2,wF hok hi h2 c1 c2 hl hf⟩
theorem kd2 {s:Sch} (hE:schE s=0) {i:Nat} (hi:i<s.cols.length) (h0:0<i) {o lev:Nat} (ho:o≤lev) (hl:(lev:Int)≤finI s i) {a b:Int} (ha:qS s i a=true) (hb:qS s i b=true) (h:qu s i lev a=qu s i lev b):qu s i o a=qu s i o b:=by
 by_cases h2:(qj s i).kind=2
 ·have hok:=qO hE;obtain⟨_,d2⟩:=hok.cdl hi h2;obtain⟨hp,_,_⟩:=zf d2;have hf:finI s i=zk (qK s i)-1:=by rw[finI,Aq (by rw[hE];omega),Ax,Aj h2]
  obtain⟨c,rfl,c1,c2,c3⟩:=zX2 hE hi h0 h2 hl ha;obtain⟨d,rfl,e1,e2,e3⟩:=zX2 hE hi h0 h2 hl hb;rw[wF hok hi h2 c1 c2 (by omega) hf,wF hok hi h2 e1 e2 (by omega) hf];rw[c3,e3] at h;rw[← zh1 hp ho c c1 (by omega),← zh1 hp ho d e1 (by omega),show upN (qK s i).codes lev c=upN (qK s i).codes lev d by omega]
 ·by_cases e0:o=0
  ·subst e0;have za:=zh8 hE hi h0 h2 ha;have zb:=zh8 hE hi h0 h2 hb;show qu s i 0 a=qu s i 0 b;rw[za,zb]
  ·by_cases e1:o=lev
   ·rw[e1];exact h
   have hm:=qg1 hE hi h0 h2;have hf:=hm.fin;obtain⟨k,k1,k2⟩:=hm.dv (o:=o) (l:=lev) (by omega) (by omega) (by omega);rw[zD5 hE hi h0 h2 (by omega) (by omega) ha hb];rcases (zD5 hE hi h0 h2 (by omega) hl ha hb).1 h with h | ⟨h3,h4,h5⟩
   ·exact .inl h
   ·refine .inr ⟨h3,h4,?_⟩;have hw:=hm.wid lev (by omega) (by omega);have:=Int.eq_of_mul_eq_mul_right (by omega) h5;rw[k2,jQ3 hw (by omega),jQ3 hw (by omega),this]
theorem kj7 {s:Sch} (hE:schE s=0) {i:Nat} (hi:i<s.cols.length) (h0:0<i) {a:Int} (ha:qS s i a=true):qu s i (finI s i) a=a:=by
 by_cases h2:(qj s i).kind=2
 ·exact qy8 hE h0 hi h2 ((Jl (qO hE) hi h2).1 ha)
 ·have hm:=qg1 hE hi h0 h2;have hn:=hm.nw;have:=zh7 hm (lev:=(qj s i).widths.length) (by rw[hm.fin];omega) ha;rw[hm.fin,this,Aq (by omega),hm.one];split
  ·rfl
  ·unfold qA;simp
end Go.Proofs
namespace Go.Proofs
open Go Go.TL
set_option maxRecDepth 4000
set_option maxHeartbeats 8000000
theorem kd3 {n:Nat} {p:Nat→Nat→Bool} (h:qs7 n p=true) {i k:Nat} (hi:i<n) (hk:k<n) (hne:i≠k):p (max i k) (min i k)=true:=by
 rcases Nat.lt_or_gt_of_ne hne with q | q
 ·rw[show max i k=k by omega,show min i k=i by omega];exact zh3.1 h k hk i q
 ·rw[show max i k=i by omega,show min i k=k by omega];exact zh3.1 h i hi k q
theorem jj2 {v w q:Int} (hw:1≤w) (h1:q*w≤v) (h2:v<(q+1)*w):qA v w=q:=by
 rw[qI5 (by omega)];have a1:v / w<q+1:=Int.ediv_lt_of_lt_mul (by omega) h2;have a2:q≤v / w:=Int.le_ediv_of_mul_le (by omega) h1;omega
theorem zX3 {v w:Int} (hw:1≤w):v<(qA v w+1)*w∧(qA v w+1)*w-w≤v∧w ∣ (qA v w+1)*w:=by
 have h:=yq (v:=v) (w:=w) (by omega);rw[Int.add_mul,Int.one_mul];refine⟨by omega,by omega,?_⟩;exact Int.dvd_add (Int.dvd_mul_left _ _) (Int.dvd_refl _)
theorem jG8 {high w wo f:Int} (h:divM high w wo 2 f=true):high<f∨(wo ∣ f∧(high<f+w∨wo ∣ f+w)):=by
 unfold divM at h;split at h
 ·left;omega
 ·split at h
  ·cases h
  ·rename_i h1 h2;right
   refine⟨Int.dvd_of_tmod_eq_zero (AQ h2),?_⟩;unfold divM at h;split at h
   ·left;omega
   ·split at h
    ·cases h
    ·rename_i h3 h4;exact .inr (Int.dvd_of_tmod_eq_zero (AQ h4))
theorem kd4 {s:Sch} (hE:schE s=0) {i:Nat} (hi:i<s.cols.length) (h0:0<i) {o lev:Nat} (ho:o≤lev) (hl:(lev:Int)≤finI s i) (hd:divB s i o lev=true) {a b:Int} (ha:qS s i a=true) (hb:qS s i b=true) (h:qu s i o a=qu s i o b):qu s i lev a=qu s i lev b:=by
 by_cases e:o=lev
 ·rw[← e];exact h
 have hok:=qO hE;unfold divB at hd;rw[Aq (by omega)] at hd;by_cases h2:(qj s i).kind=2
 ·rw[Aj h2] at hd;have ma:=(Jl hok hi h2).1 ha;have mb:=(Jl hok hi h2).1 hb;by_cases e:a=b
  ·rw[e]
  obtain⟨j,hj,rfl⟩:=CX ma;obtain⟨k,hk,rfl⟩:=CX mb;have hp:=kd3 hd hj hk (fun q=>e (by subst q;rfl));have key:∀ x y,divP s i (qJ s i) o lev x y=true→qu s i o ((qJ s i).getD x 0)=qu s i o ((qJ s i).getD y 0)→qu s i lev ((qJ s i).getD x 0)=qu s i lev ((qJ s i).getD y 0):=fun x y hp he=>by
   unfold divP at hp;rw[he] at hp;simpa using hp
  have gj:(qJ s i).getD j 0=(qJ s i)[j]:=qg hj;have gk:(qJ s i).getD k 0=(qJ s i)[k]:=qg hk;rw[← gj,← gk] at h ⊢
  rcases Nat.lt_or_ge j k with q | q
  ·rw[show max j k=k by omega,show min j k=j by omega] at hp;exact (key k j hp h.symm).symm
  ·rw[show max j k=j by omega,show min j k=k by omega] at hp;exact key j k hp h
 ·rw[Aq h2] at hd;dsimp only at hd;have hm:=qg1 hE hi h0 h2;have hlh:=hm.lh;have hf:=hm.fin;have hw:=hm.wid lev (by omega) (by omega);have va:=(qb4 hm.kind).1 ha;have vb:=(qb4 hm.kind).1 hb;rw[zD5 hE hi h0 h2 (by omega) hl ha hb];obtain⟨f1,f2,f3⟩:=zX3 (v:=(qj s i).low) hw;have hq:=yq (v:=(qj s i).low) (w:=qD (qj s i) lev) (by omega);have hlow:∀ v,(qj s i).low≤v→v<(qA (qj s i).low (qD (qj s i) lev)+1)*qD (qj s i) lev→qA v (qD (qj s i) lev)=qA (qj s i).low (qD (qj s i) lev):=fun v v1 v2=>jj2 hw (by omega) v2;by_cases e0:o=0
  ·rw[Aj e0,Bq,Bx,AZ] at hd;have ra:(qj s i).low≤a∧a≤(qj s i).high:=va.resolve_left fun k=>by rw[hd.1] at k;cases k.1
   have rb:(qj s i).low≤b∧b≤(qj s i).high:=vb.resolve_left fun k=>by rw[hd.1] at k;cases k.1
   refine .inr ⟨fun e=>by unfold zz at e;omega,fun e=>by unfold zz at e;omega,?_⟩;rw[hlow a ra.1 (by omega),hlow b rb.1 (by omega)]
  ·rw[Aq e0] at hd;rcases (zD5 hE hi h0 h2 (by omega) (by omega) ha hb).1 h with k | ⟨na,nb,hbl⟩
   ·exact .inl k
   ·refine .inr ⟨na,nb,?_⟩;have ra:(qj s i).low≤a∧a≤(qj s i).high:=va.resolve_left fun k=>na k.2;have rb:(qj s i).low≤b∧b≤(qj s i).high:=vb.resolve_left fun k=>nb k.2;obtain⟨k,k1,k2⟩:=hm.dv (o:=o) (l:=lev) (by omega) (by omega) (by omega);have hwo:=hm.wid o (by omega) (by omega);rcases jG8 hd with g | ⟨g1,g2⟩
    ·rw[hlow a ra.1 (by omega),hlow b rb.1 (by omega)]
    ·have hhi:(qj s i).high<(qA (qj s i).low (qD (qj s i) lev)+1)*qD (qj s i) lev+qD (qj s i) lev:=by
      rcases g2 with g | g
      ·exact g
      ·exfalso
       have:qD (qj s i) o ∣ qD (qj s i) lev:=(Int.dvd_add_right g1).1 g;have h5:=Int.le_of_dvd (by omega) this;have h6:2*qD (qj s i) lev≤k*qD (qj s i) lev:=Int.mul_le_mul_of_nonneg_right k1 (by omega);omega
     have hbs:=kd0 (by omega) g1 hbl;generalize hF:(qA (qj s i).low (qD (qj s i) lev)+1)*qD (qj s i) lev=F at *
     have hup:∀ v,F≤v→v<F+qD (qj s i) lev→qA v (qD (qj s i) lev)=qA (qj s i).low (qD (qj s i) lev)+1:=fun v v1 v2=>jj2 hw (by omega) (by
      rw[Int.add_mul,hF,Int.one_mul];omega)
     by_cases q:F≤a
     ·rw[hup a q (by omega),hup b (hbs.1 q) (by omega)]
     ·have q2:¬ F≤b:=fun h=>q (hbs.2 h);rw[hlow a ra.1 (by omega),hlow b rb.1 (by omega)]
end Go.Proofs
namespace Go.Proofs
open Go Go.TL
set_option maxRecDepth 4000
set_option maxHeartbeats 8000000
theorem zu8:∀ {l:List Pk} {p:Pk},p∈l→p.lev≤mxl l p.col
 | q::r,p,h=>by
   rw[mxl];rcases Ck.1 h with e | h
   ·subst e;rw[Aj rfl];omega
   ·have:=zu8 h;split <;> omega
theorem qz6:∀ {l:List Pk} {k:Int},0<mxl l k→∃ p∈l,p.col=k∧p.lev=mxl l k
 | [],k,h=>by rw[mxl] at h;omega
 | p::r,k,h=>by
   rw[mxl] at h ⊢
   by_cases e:p.col=k
   ·rw[Aj e] at h ⊢
    by_cases h2:mxl r k≤p.lev
    ·exact⟨p,by simp,e,by omega⟩
    ·obtain⟨x,h3,h4,h5⟩:=qz6 (l:=r) (k:=k) (by omega);exact⟨x,CQ _ h3,h4,by omega⟩
   ·rw[Aq e] at h ⊢
    obtain⟨x,h3,h4,h5⟩:=qz6 (l:=r) (k:=k) h;exact⟨x,CQ _ h3,h4,h5⟩
end Go.Proofs
namespace Go.Proofs
open Go Go.TL
set_option maxRecDepth 4000
set_option maxHeartbeats 8000000
theorem qo3 (x y:Qst):Spc Tryz.prog jD [qstT x,.ip (qstT y).cells] [] (vB (eqB x.name y.name)) []:=by
 refine qd qh9 mixm (by simp) fun e _ hst=>qh ?_;unfold kS;refine sW ?_;rw[show (x.name.toList==y.name.toList)=eqB x.name y.name from rfl];exact .oA [] []
theorem WB (p:Qst→Bool) (f:FuncId) (caps:List T) (hcap:imL caps=true) (l:List Qst) (hf:∀ y∈l,Spc Tryz.prog f (qstT y::caps) [] (vB (p y)) []) (hl:l.length<4611686018427387904) :
 Spc Tryz.prog jl [.sl 17 (l.map qstT),.clo f caps] [] (vI (idxI p l)) []:=by
 refine qd Ko mixm (by simp) fun e _ hst=>qh ?_;unfold ja;refine sW ?_;refine qw mixm (α:=Nat) [8] (fun i=>i≤l.length∧((l.take i).any p=false)) (fun i=>[(8,vI i)]) (fun i=>[]) (fun i=>l.length-i) 0 ⟨by omega,?_⟩ ?_ fun i hi=>?_
 ·simp
 ·exact .oA [] []
 simp only[tZ,↓un_u,simprocAttr,AZ,Ay];refine⟨fun h=>?_,fun h=>?_⟩
 ·have hi2:i<l.length:=by omega
  have hwi:=qk (i:=i) (by omega);simp only[tZ,↓un_u,simprocAttr,Ax,qe hi2,hwi,qv0];refine⟨by omega,?_⟩;refine C1.im (hf l[i] (AX hi2)) (YU rfl hcap) rfl ?_;refine sW ?_;refine⟨fun h3=>?_,fun h3=>⟨i+1,⟨by omega,kh hi2 hi.2 h3⟩,by omega,?_⟩⟩
  ·rw[idxI,Aj (zt5 hi2 h3),Qd hi2 hi.2 h3];exact .imR rfl rfl
  ·exact .oA [] []
 ·have h2:i=l.length:=by omega
  have h3:=hi.2;rw[h2,Bw] at h3;rw[idxI,Aq (by rw[h3];simp)];exact .imR rfl rfl
theorem Jm (p:Qst→Bool) (f:FuncId) (caps:List T) (hcap:imL caps=true) (l:List Qst) (hf:∀ y∈l,Spc Tryz.prog f (qstT y::caps) [] (vB (p y)) []) (hl:l.length<4611686018427387904) :
 Spc Tryz.prog zN [.sl 17 (l.map qstT),.clo f caps] [] (vB (l.any p)) []:=by
 refine qd ZJ mixm (by simp) fun e _ hst=>qh ?_;unfold zE;refine sW ?_;refine C1.im (WB p f caps hcap l hf hl) (ZX rfl hcap) rfl ?_;refine sW ?_;rw[show decide (idxI p l≥0)=l.any p from zb2 p l];exact .imR rfl rfl
theorem WC (s:Sch) (hs:yX s) (d:Dcl):Spc Tryz.prog ki [schT s,dclT d] [] (vI (dclE s d)) []:=by
 refine qd qr4 mixm (by simp) fun e _ hst=>qh ?_;unfold ye;refine sW ?_;refine C1.im (jf s hs.2.1 hs.1) (by rfl) (by rfl) ?_;simp only[tZ,↓un_u,simprocAttr,Bj,Aw];refine⟨fun h=>?_,fun h=>?_⟩
 ·rw[dclE,Aj h];exact .oA [] []
 rw[dclE,Aq (by rw[h];simp)];refine C1.im (wC d.proj) (by rfl) (by rfl) ?_;refine sW ?_;refine C2.im (fun _=>wC d.src) (fun _=>rfl) (by rfl) ?_;simp only[tZ,↓un_u,simprocAttr,tD,Bx,Bz];refine⟨fun h2=>?_,fun h2=>?_⟩
 ·rw[Aj h2];exact .oA [] []
 rw[Aq (by rw[h2.1,h2.2];simp)];refine C1.im (ke s hs d.coh) (by rfl) (by rfl) ?_;simp only[tZ,↓un_u,simprocAttr,Bj,Aw];refine⟨fun h3=>?_,fun h3=>?_⟩
 ·rw[Aj h3];exact .oA [] []
 rw[Aq (by rw[h3];simp)];simp only[tZ,↓un_u,simprocAttr,tD,gt_iff_lt,AY,Ak];refine⟨fun h4=>?_,fun h4=>?_⟩
 ·have:smpE d.smp≠0:=by rw[smpE,Aj (by omega)];simp
  rw[Aj this];exact .oA [] []
 have h5:smpE d.smp=0:=by rw[smpE,Aq (by omega)]
 rw[Aq (by rw[h5];simp)];refine⟨fun h6=>?_,fun h6=>?_⟩
 ·rw[Aj (by omega)];exact .oA [] []
 rw[Aq (by omega)];generalize hE:zI (qsE s d.qs) d.qs.length=E;refine qw mixm (α:=Nat) [80] (fun i=>i≤d.qs.length∧(zI (qsE s d.qs) i=0)) (fun i=>[(80,vI i)]) (fun i=>[(4096,.arr 2 [schT s] false),(4100,.arr 12 [dclT d] false)]) (fun i=>d.qs.length-i) 0 ⟨by omega,?_⟩ ?_ fun i hi=>?_
 ·rfl
 ·exact .oA [(4096,some 4096),(4100,some 4100)] []
 simp only[tZ,↓un_u,simprocAttr,AZ,Ay];refine⟨fun h=>?_,fun h=>?_⟩
 ·have hi2:i<d.qs.length:=by omega
  have hpi:qAt d.qs i=d.qs[i]:=by rw[qAt,qg hi2]
  have hstep:=Qi hi.2 hi2;have hnext:=jO hi.2;have hA:qsE s d.qs i=if qstE s d.qs[i]≠0 then qstE s d.qs[i] else if ((d.qs.take i).any fun x=>eqB x.name d.qs[i].name)=true then 10 else 0:=by rw[qsE,hpi]
  rw[hE] at hstep;have hQ:=Zn s hs d.qs[i];have hCF:=Jm (fun x=>eqB x.name d.qs[i].name) jD [.ip (qstT d.qs[i]).cells] rfl (d.qs.take i) (fun x _=>qo3 x d.qs[i]) (by rw[Cz];omega);have hi2:i<d.qs.length:=by omega
  have hwi:=qk (i:=i) (by omega);simp only[tZ,↓un_u,simprocAttr,Ax,qe hi2,hwi];refine⟨by omega,?_⟩;refine C1.im hQ (by rfl) (by rfl) ?_;simp only[tZ,↓un_u,simprocAttr,Bj,Aw];refine⟨fun h7=>?_,fun h7=>?_⟩
  ·rw[Aj h7] at hA;rw[hstep (by rw[hA];exact h7),hA];exact .oA [] []
  rw[Aq (by rw[h7];simp)] at hA;refine⟨by omega,?_⟩;rw[qk1,zb1];refine C1.lend [69644] hCF ?_ (by rfl) (by rfl) ?_
  ·all_goals (try simp only[tL,simprocAttr,By,List.map_cons,List.map_nil,BW,Cy])
   all_goals (try (repeat' (first | exact ze | (apply zB;intro _;exact⟨rfl,rfl⟩) | (apply qH;intro _;exact⟨rfl,rfl⟩) | with_reducible apply qX | with_reducible refine qT ⟨rfl,rfl⟩ ?_ | exact qY | with_reducible apply qU | with_reducible refine qW ⟨rfl,rfl,?_⟩ ?_ | with_reducible apply Az | exact qV rfl | exact qV (by assumption) | (refine⟨⟨?_,rfl,?_,rfl,?_⟩,trivial⟩ <;> first | (simp;done) | (apply qH;intro _;exact⟨rfl,rfl⟩)) | trivial | rfl | (rw[qk (by omega)]) | omega)))
   simp only[ltP];exact⟨rfl,by decide,rfl,qT ⟨rfl,rfl⟩ qY⟩
  simp only[tZ,↓un_u,simprocAttr,hwi];refine⟨fun h8=>?_,fun h8=>?_⟩
  ·rw[Aj h8] at hA;rw[hstep (by rw[hA];simp),hA];exact .oA [] []
  ·rw[Aq (by rw[h8];simp)] at hA;refine⟨i+1,⟨by omega,by rw[hnext,hA]⟩,by omega,?_⟩;exact .oA [(4096,some 4096),(4100,some 4100)] []
 ·have hi2:i=d.qs.length:=by omega
  subst hi2;rw[← hE,hi.2];exact .oA [] []
def zQ6 (s:Sch) (qs:List Qst):List Pk:=qs.flatMap (yp s)
theorem qX5 {s:Sch} (q:Qst):∀ p∈yp s q,1≤p.col∧p.col<s.cols.length:=fun p hp=>by
 by_cases h:qstE s q=0
 ·have hq:=Wr h;rw[qq4 h] at hp;obtain⟨k,k1,k2,rfl⟩:=Kw.1 hp;refine⟨?_,by dsimp only;omega⟩;dsimp only;rcases DQ k with e | e
  ·subst e;rw[WS fun q' hq'=>by have:=qX4 hq q' hq';omega] at k2;omega
  ·omega
 ·rw[yp,Aj h] at hp;simp at hp
theorem qb5 {s:Sch} {d:Dcl} (h:dclE s d=0):kZ s d=canF (fun k=>mxl (zQ6 s d.qs) k) s.cols.length:=by
 rw[kZ,Aq (by rw[h];simp)];have key:∀ qs:List Qst,∀ l,qs.foldl (fun l q=>Qm l (yp s q)) l=Qm l (zQ6 s qs):=by
  intro qs
  induction qs with
  | nil=>intro l;rfl
  | cons q r ih=>
    intro l;rw[Dw,ih,← qI3];rfl
 rw[key];refine zQ4 fun p hp=>?_;obtain⟨q,hq,hp⟩:=Ek.1 hp;have:=qX5 q p hp;omega
theorem zh9 (s:Sch) (hs:yX s) (d:Dcl) (h:dclE s d=0):Spc Tryz.prog KH [schT s,dclT d] [] (vPs (kZ s d)) []:=by
 obtain⟨hE,_,_,_,_,hq1,hq2,_⟩:=qn3 h;have hnc:=(qO hE).nc;rw[qb5 h,zQ6,List.flatMap_def];have hbl:∀ l∈d.qs.map (yp s),l.length≤1000:=fun l hl=>by
  obtain⟨q,_,rfl⟩:=Cj.1 hl;have:=zg0 s q;omega
 have hbb:∀ l∈d.qs.map (yp s),∀ p∈l,0≤p.col∧p.col<s.cols.length:=fun l hl p hp=>by
  obtain⟨q,_,rfl⟩:=Cj.1 hl;have:=qX5 q p hp;omega
 have hM:=qb3 (d.qs.map (yp s)) s.cols.length (by omega) (by omega) (by rw[BY];omega) hbl hbb;refine qd qS0 mixm (by simp) fun e _ hst=>qh ?_;unfold Jz;refine sW ?_;refine qw mixm (α:=Nat) [5,11] (fun i=>i≤d.qs.length) (fun i=>[(5,.asl 1 i),(11,vI i)]) (fun i=>[(4096,.arr 2 [schT s] false),(1,.arr 1 ((d.qs.take i).map fun q=>vPs (yp s q)) false)]) (fun i=>d.qs.length-i) 0 (by omega) ?_ fun i hi=>?_
 ·exact .oA [(4096,some 4096),(1,none)] []
 have htl:(d.qs.take i).length=i:=by rw[Cz];omega
 refine sD ?_;refine⟨fun h3=>?_,fun h3=>?_⟩
 ·have hi2:i<d.qs.length:=by omega
  have hwi:=qk (i:=i) (by omega);have hN:=qO4 s hs d.qs[i];simp only[tZ,↓un_u,simprocAttr,Ax,qe hi2];refine⟨by omega,?_⟩;refine C1.im hN (by rfl) (by rfl) ?_;simp only[tZ,↓un_u,simprocAttr,hwi];refine⟨by omega,i+1,by omega,by omega,?_⟩;rw[qM hi2,By];exact .oA [(4096,some 4096),(1,some 1)] []
 ·have hil:i=d.qs.length:=by omega
  subst hil;rw[Bw];rw[Gz] at hM;refine C1.shut [1] hM ?_ (by rfl) rfl ?_
  ·all_goals (try exact clA)
  refine sW ?_;exact .oA [] []
theorem qO5 (a b:List Pk) (ha:a.length<4611686018427387904) (hb:b.length<4611686018427387904):Spc Tryz.prog Zs [vPs a,vPs b] [] (vB (covB a b)) []:=by
 refine qd qB6 mixm (by simp) fun e _ hst=>qh ?_;unfold QI;refine sW ?_;refine C1.im (qI2 b a hb ha) (by rfl) (by rfl) ?_;refine sW ?_;exact .oA [] []
theorem qX6 {a b:List Pk}:covB a b=true↔∀ x∈a,∃ y∈b,y.col=x.col∧x.lev≤y.lev:=by
 unfold covB;simp only[Bk,DJ,Bq,AY,AZ]
theorem jG9 {s:Sch} {d:Dcl} (h:dclE s d=0) (l:List Pk) (hl:l.Pairwise fun a b=>a.col<b.col):covB (kZ s d) l=d.qs.all fun q=>covB (yp s q) l:=by
 rw[Bool.eq_iff_iff,qX6,Bk,qb5 h];constructor
 ·intro H q hq;rw[qX6];intro x hx;have hb:=qX5 q x hx;have hm:x∈zQ6 s d.qs:=Ek.2 ⟨q,hq,hx⟩;have hge:=zu8 hm;obtain⟨k,hk⟩:=AJ (show 0≤x.col by omega);rw[hk] at hge;have hx0:0<x.lev:=by
   by_cases hq0:qstE s q=0
   ·rw[qq4 hq0] at hx;obtain⟨_,_,k2,rfl⟩:=Kw.1 hx;exact k2
   ·rw[yp,Aj hq0] at hx;simp at hx
  obtain⟨y,hy,e1,e2⟩:=H ⟨k,mxl (zQ6 s d.qs) k⟩ (Kw.2 ⟨k,by omega,by omega,rfl⟩);exact⟨y,hy,by rw[e1,hk],by dsimp only at e2;omega⟩
 ·intro H x hx;obtain⟨k,k1,k2,rfl⟩:=Kw.1 hx;obtain⟨p,hp,e1,e2⟩:=qz6 k2;obtain⟨q,hq,hp2⟩:=Ek.1 hp;obtain⟨y,hy,e3,e4⟩:=qX6.1 (H q hq) p hp2;exact⟨y,hy,by rw[e3,e1],by dsimp only;omega⟩
theorem jj3 {s:Sch} {d:Dcl} (h:dclE s d=0) {l:List Pk} (hl:kY s l=0):zf3 s d l=if covB (kZ s d) l=true then 0 else 23:=by
 obtain⟨_,_,hasc⟩:=Zd hl;obtain⟨_,_,_,_,_,_,_,hqs⟩:=qn3 h;rw[zf3,Aq (by rw[h];simp),Aq (by rw[hl];simp),jG9 h l hasc];have hs:∀ i,i<d.qs.length→sufB s (qAt d.qs i) l=covB (yp s (qAt d.qs i)) l:=fun i hi=>by
  rw[sufB,hqs i hi,hl];simp
 by_cases hall:(d.qs.all fun q=>covB (yp s q) l)=true
 ·rw[Aj hall];refine Wp fun i hi=>?_;have:=Bk.1 hall (qAt d.qs i) (by rw[qAt,qg hi];exact AX _);rw[hs i hi,this];rfl
 ·rw[Aq hall];refine AQ fun hne=>hall ?_;rw[Bk];intro q hq;obtain⟨i,hi,rfl⟩:=CX hq;have key:∀ n,n≤d.qs.length→(zI (fun i=>if sufB s (qAt d.qs i) l=true then 0 else 23) n=0∨zI (fun i=>if sufB s (qAt d.qs i) l=true then 0 else 23) n=23):=by
   intro n
   induction n with
   | zero=>intro _;exact .inl rfl
   | succ n ih=>
     intro hn;rw[zI];rcases ih (by omega) with e | e
     ·rw[Aq (by rw[e];simp)];split <;> simp
     ·rw[Aj (by rw[e];simp)];exact .inr e
  have h0:=(key _ (BZ _)).resolve_right hne;have:=Qh h0 i hi;rw[hs i hi,qAt,qg hi] at this;by_cases e:covB (yp s d.qs[i]) l=true
  ·exact e
  ·rw[Aq e] at this;cases this
theorem qW0 (s:Sch) (hs:yX s) (d:Dcl) (l:List Pk) (hl:l.length<4611686018427387904):Spc Tryz.prog Jp [schT s,dclT d,vPs l] [] (vI (zf3 s d l)) []:=by
 have hpl:=zO9 s d;refine qd qK2 mixm (by simp) fun e _ hst=>qh ?_;unfold ZC;refine sW ?_;refine C1.im (WC s hs d) (by rfl) (by rfl) ?_;simp only[tZ,↓un_u,simprocAttr,Bj,Aw];refine⟨fun h=>?_,fun h=>?_⟩
 ·rw[zf3,Aj h];exact .oA [] []
 refine C1.im (qu3 s hs l hl) (by rfl) (by rfl) ?_;simp only[tZ,↓un_u,simprocAttr,Bj,Aw];refine⟨fun h2=>?_,fun h2=>?_⟩
 ·rw[zf3,Aq (by rw[h];simp),Aj h2];exact .oA [] []
 rw[jj3 h h2];refine C1.im (zh9 s hs d h) (by rfl) (by rfl) ?_;refine sW ?_;refine C1.im (qO5 (kZ s d) l (by omega) hl) (by rfl) (by rfl) ?_;simp only[tZ,↓un_u,simprocAttr,Bx,Bz];refine⟨fun h3=>?_,fun h3=>?_⟩
 ·rw[Aq (by rw[h3];simp)];exact .oA [] []
 ·rw[Aj h3];exact .oA [] []
end Go.Proofs
namespace Go.Proofs
open Go Go.TL
set_option maxRecDepth 4000
set_option maxHeartbeats 8000000
open So
theorem zp9 (x:Smp):Spc Tryz.prog WW [smpT x] [] (vI (smpE x)) []:=by
 refine qd ze2 mixm (by simp) fun e _ hst=>qh ?_;unfold Wi;refine sD ?_;refine⟨fun h=>?_,fun h=>?_⟩
 ·rw[smpE,Aj (by omega)];exact .oA [] []
 ·rw[smpE,Aq (by omega)];exact .oA [] []
theorem zD6 (seed id:Int):Spc Tryz.prog qd2 [vI seed,vI id] [] (vI (drwI seed id)) []:=by
 refine qd zo8 mixm (by simp) fun e _ hst=>qh ?_;unfold YB;refine sW ?_;refine qw mixm (α:=Nat) [5,14] (fun i=>i≤3) (fun i=>[(5,vU64 (iter drwX i (drw0 seed id))),(14,vI i)]) (fun i=>[]) (fun i=>3-i) 0 (by omega) ?_ fun i hi=>?_
 ·exact .oA [] []
 have hwi:=qk (i:=i) (by omega);refine sD ?_;refine⟨fun h=>?_,fun h=>?_⟩
 ·simp only[tZ,↓un_u,simprocAttr,hwi];refine⟨i+1,by omega,by omega,?_⟩;show Le _ _ ⟨(5,vU64 (drwX (iter drwX i (drw0 seed id))))::_,_⟩;exact .oA [] []
 ·have:i=3:=by omega
  subst this;exact .oA [] []
theorem zX4 (x:Smp) (id:Int):Spc Tryz.prog qv5 [smpT x,vI id] [] (vB (inS x id)) []:=by
 refine qd zM8 mixm (by simp) fun e _ hst=>qh ?_;unfold qm0;refine sW ?_;refine C1.im (zp9 x) (by rfl) (by rfl) ?_;refine sW ?_;refine C2.im (fun _=>zD6 x.seed id) (fun _=>rfl) (by rfl) ?_;refine sW ?_;rw[show (smpE x==0&&decide (id≥1)&&decide (id≤1048575)&&decide ((drwI x.seed id).tmod x.of<x.part))=inS x id from rfl];refine⟨fun h=>?_,by kernel_rfl,?_⟩
 ·simp only[tD,AY] at h;have:=h.1.1;unfold smpE at this
  grind
 ·exact .oA [] []
theorem qW1 (s:Sch) (row:List Int) (f:FuncId) (caps:List T) (hcap:imL caps=true) (hf:∀ a,NdOk s a→isAt a=true→Spc Tryz.prog f (cnT a::caps) [] (vI (Zc s a (row.getD a.col.toNat 0))) []):∀ (c:Cnd),nodE s c=0→Spc Tryz.prog zx [cnT c,.clo f caps] [] (vI (evC s row c)) []:=by
 refine Cnd.ind' fun c ih hE=>?_;obtain⟨hE1,hE2⟩:=jD7 hE;have hnd:=jD8 hE1;have hnk:=hnd.nk;have hop:=hnd.op;rw[jW5];by_cases h1:c.op=1
 ·have q:(c.op==1)=true:=AY.2 h1;rw[Aq (by simp [isAt,h1]),show zp7 c.op _=1 by rw[zp7,Aq (by omega),Aq (by omega),Aq (by omega)]];refine qd jY mixm (by simp) fun e _ hst=>qh ?_;unfold zG;simp only[tZ,↓un_u,simprocAttr,q];exact .oA [] []
 have q1:(c.op==1)=false:=Ak.2 h1;by_cases h5:c.op=5
 ·have q5:(c.op==5)=true:=AY.2 h5;have hk:c.kids.length=2:=by rw[hnk,h5];rfl
  have k0:0<c.kids.length:=by omega
  have k1:1<c.kids.length:=by omega
  have hS0:=ih _ (AX k0) (hE2 _ (AX k0));have hS1:=ih _ (AX k1) (hE2 _ (AX k1));have g0:=jE0 s row c.kids[0];have g1:=jE0 s row c.kids[1];rw[Aq (by simp [isAt,h5]),zp7,Aq (by omega),Aj h5,qg (by rw[BY];omega),qg (by rw[BY];omega),Fj,Fj];have hm:minI (evC s row c.kids[0]) (evC s row c.kids[1])=min (evC s row c.kids[0]) (evC s row c.kids[1]):=by unfold minI;omega
  refine qd jY mixm (by simp) fun e _ hst=>qh ?_;unfold zG;simp only[tZ,↓un_u,simprocAttr,q1,q5,qe k0,qe k1,zw];refine⟨by omega,?_⟩;refine C1.im hS0 (ZX rfl hcap) (by rfl) ?_;simp only[tZ,↓un_u,simprocAttr,qe k1,zw];refine⟨by omega,?_⟩;refine C1.im hS1 (ZX rfl hcap) (by rfl) ?_;simp only[tZ,↓un_u,simprocAttr,hm];refine⟨by kernel_rfl,?_⟩;exact .oA [] []
 have q5:(c.op==5)=false:=Ak.2 h5;by_cases h6:c.op=6
 ·have q6:(c.op==6)=true:=AY.2 h6;have hk:c.kids.length=2:=by rw[hnk,h6];rfl
  have k0:0<c.kids.length:=by omega
  have k1:1<c.kids.length:=by omega
  have hS0:=ih _ (AX k0) (hE2 _ (AX k0));have hS1:=ih _ (AX k1) (hE2 _ (AX k1));rw[Aq (by simp [isAt,h6]),zp7,Aq (by omega),Aq (by omega),Aj h6,qg (by rw[BY];omega),qg (by rw[BY];omega),Fj,Fj];have hm:maxI (evC s row c.kids[0]) (evC s row c.kids[1])=max (evC s row c.kids[0]) (evC s row c.kids[1]):=by unfold maxI;omega
  refine qd jY mixm (by simp) fun e _ hst=>qh ?_;unfold zG;simp only[tZ,↓un_u,simprocAttr,q1,q5,q6,qe k0,qe k1,zw];refine⟨by omega,?_⟩;refine C1.im hS0 (ZX rfl hcap) (by rfl) ?_;simp only[tZ,↓un_u,simprocAttr,qe k1,zw];refine⟨by omega,?_⟩;refine C1.im hS1 (ZX rfl hcap) (by rfl) ?_;simp only[tZ,↓un_u,simprocAttr,hm];refine⟨by kernel_rfl,?_⟩;exact .oA [] []
 have q6:(c.op==6)=false:=Ak.2 h6;by_cases h7:c.op=7
 ·have q7:(c.op==7)=true:=AY.2 h7;have hk:c.kids.length=1:=by rw[hnk,h7];rfl
  have k0:0<c.kids.length:=by omega
  have hS0:=ih _ (AX k0) (hE2 _ (AX k0));have g0:=jE0 s row c.kids[0];rw[Aq (by simp [isAt,h7]),zp7,Aj h7,qg (by rw[BY];omega),Fj];have hw:IntKind.i64.wrap ((0:Int)-evC s row c.kids[0]) =-evC s row c.kids[0]:=by rw[AK _ (by omega)];omega
  refine qd jY mixm (by simp) fun e _ hst=>qh ?_;unfold zG;simp only[tZ,↓un_u,simprocAttr,q1,q5,q6,q7,qe k0,zw];refine⟨by omega,?_⟩;refine C1.im hS0 (ZX rfl hcap) (by rfl) ?_;simp only[tZ,↓un_u,simprocAttr,hw];exact .oA [] []
 have q7:(c.op==7)=false:=Ak.2 h7;have ha:isAt c=true:=by
  simp only[isAt,tD,AY];omega
 rw[Aj ha];refine qd jY mixm (by simp) fun e _ hst=>qh ?_;unfold zG;simp only[tZ,↓un_u,simprocAttr,q1,q5,q6,q7];refine C1.im (hf c hnd ha) (YU rfl hcap) rfl ?_;refine sW ?_;exact .oA [] []
theorem qO6 (s:Sch) (hok:SchOk s) (row:List Int) (hr:row.length=s.cols.length) (c:Cnd) (hc:nodE s c=0):Spc Tryz.prog Zx [schT s,cnT c,vIs row] [] (vI (evC s row c)) []:=by
 have h1:∀ a,NdOk s a→isAt a=true→Spc Tryz.prog kv [cnT a,.ip (schT s).cells,.ip [vIs row]] [] (vI (Zc s a (row.getD a.col.toNat 0))) []:=fun a ha ha2=>by
  have hb:∃ k,isB s a.col k=true:=by
   simp only[isAt,tD,AY] at ha2;rcases ha2 with (h | h) | h
   ·exact⟨2,(ha.under h).1⟩
   ·exact⟨3,(ha.between h).1⟩
   ·exact⟨3,(ha.miss h).1⟩
  obtain⟨kk,hb⟩:=hb;obtain⟨b1,b2,_⟩:=zH.1 hb;have hil:a.col.toNat<row.length:=by omega
  rw[qg hil];refine qd qs4 mixm (by simp) fun e _ hst=>qh ?_;unfold yj;simp only[tZ,↓un_u,simprocAttr,qe hil];refine⟨by omega,?_⟩;refine C1.im (qg7 s hok a ha ha2 _) (by rfl) (by rfl) ?_;refine sW ?_;refine⟨by kernel_rfl,?_⟩;exact .oA [] []
 have h2:=qW1 s row kv [.ip (schT s).cells,.ip [vIs row]] rfl h1 c hc;refine qd qD9 mixm (by simp) fun e _ hst=>qh ?_;unfold QT;refine sW ?_;refine C1.lend [4096,4104] h2 ?_ (by rfl) (by rfl) ?_
 ·all_goals (try simp only[tL,simprocAttr,By,List.map_cons,List.map_nil,BW,Cy])
  all_goals (try (repeat' (first | exact ze | (apply zB;intro _;exact⟨rfl,rfl⟩) | (apply qH;intro _;exact⟨rfl,rfl⟩) | with_reducible apply qX | with_reducible refine qT ⟨rfl,rfl⟩ ?_ | exact qY | with_reducible apply qU | with_reducible refine qW ⟨rfl,rfl,?_⟩ ?_ | with_reducible apply Az | exact qV rfl | exact qV (by assumption) | (refine⟨⟨?_,rfl,?_,rfl,?_⟩,trivial⟩ <;> first | (simp;done) | (apply qH;intro _;exact⟨rfl,rfl⟩)) | trivial | rfl | (rw[qk (by omega)]) | omega)))
  all_goals (simp only[ltP];exact⟨rfl,by decide,rfl,qT ⟨rfl,rfl⟩ qY⟩)
 refine sW ?_;exact .oA [] []
end Go.Proofs
namespace Go.Proofs
open Go Go.TL
set_option maxRecDepth 4000
set_option maxHeartbeats 8000000
open So
end Go.Proofs
namespace Go.Proofs
open Go Go.TL
set_option maxRecDepth 4000
set_option maxHeartbeats 8000000
open So
end Go.Proofs
namespace Go.Proofs
open Go Go.TL
set_option maxRecDepth 4000
set_option maxHeartbeats 8000000
open So
end Go.Proofs
namespace Go.Proofs
open Go Go.TL
set_option maxRecDepth 4000
section
variable {P:Program} {st:Sto} {e:Env} {kss:List (Nat×List Nat)} {Q:Ex→St→Prop} {K:List KF} {rows:Option (List Nat)} {ks:List Nat} {nid:Nat} {ops:List ROp} {F:XF} {acc:Acc}
theorem C1.cut0 {fid:FuncId} {caps xs ts':List T} {d:Option Nat} {ys zs:List T} {m:Nat} (id nid' k:Nat) (hs:Spc P fid ts' [(0,.arr k zs false)] (.asl 1 m) [(0,.dead),(1,.arr k ys false)]) (hg:TL.get st id=some (.arr k zs false)) (hz:ImXs k zs) (hy:ImXs k ys)
 (hn:TL.get st nid'=none) (ha:ltAs st [(0,some id)] [] (xs++caps) ts')
 (h:R P e kss Q rows ks K nid ops (putX F d (.p (.asl nid' m))) (stUp st [(id,.dead),(nid',.arr k ys false)]) (acc++[([]++[id,nid'],[id,nid'])])):C1 P e kss Q rows ks K (.clo fid caps) xs d nid ops F st acc:=by
 have hne:id≠nid':=fun e=>by subst e;rw[hg] at hn;cases hn
 refine C1.of [(0,some id)] [(nid',some 1)] [] [(id,.dead),(nid',.arr k ys false)] hs ha (by simp [Zr,TL.get]) ?_ (by rfl) (by simp [TL.get]) ?_ ?_ (by rfl) ?_ (.inl (by rfl)) h
 ·refine⟨?_,trivial⟩;simp only[TL.get,if_true,ltO2,hg,ltO1];exact⟨trivial,by simp,ym hz,by simp⟩
 ·refine⟨?_,trivial⟩;simp only[TL.get,if_true,wrO,ltO1,Nat.reduceEqDiff,↓reduceIte,reduceCtorEq];exact⟨⟨trivial,by simp,ym hy,by simp⟩,.inl hn⟩
 ·simp [Zr,TL.get,hne]
 ·exact⟨by simp [TL.get],rfl⟩
end
end Go.Proofs
namespace Go.Proofs
open Go Go.TL
set_option maxRecDepth 4000
set_option maxHeartbeats 8000000
open So
end Go.Proofs
namespace Go.Proofs
open Go Go.TL
open Go.TL.So
theorem jQ8 (k:UInt8):IntKind.i64.wrap (0+IntKind.i64.wrap ((k.toNat:Nat):Int))=(k.toNat:Int):=by
 have h:=k.toNat_lt;rw[AK (k.toNat:Int) (by omega),AK _ (by omega)];omega
def L8 (n:Nat):Nat:=if n=0 then 0 else Nat.log2 n+1
theorem kj8 (n:Nat) (h:n<256):L8 n≤8∧n<2 ^ L8 n∧(0<n→2 ^ L8 n≤2*n):=by
 unfold L8
 revert n
 decide +kernel
def L16 (n:Nat):Nat:=if n<256 then L8 n else 8+L8 (n / 256)
theorem kj9 (n:Nat) (h:n<65536):L16 n≤16∧n<2 ^ L16 n∧(0<n→2 ^ L16 n≤2*n):=by
 unfold L16;split
 ·rename_i h2;obtain⟨h3,h4,h5⟩:=kj8 n h2;exact⟨by omega,h4,h5⟩
 ·rename_i h2;obtain⟨h3,h4,h5⟩:=kj8 (n / 256) (by omega);rw[Nat.pow_add];have h6:=h5 (by omega);generalize 2 ^ L8 (n / 256)=p at *
  refine⟨by omega,?_,fun _=>?_⟩ <;> omega
set_option maxRecDepth 100000 in
theorem qO7 (n:Nat) (h:n<65536):Spc Tryz.prog ZA [vU64 n] [] (vI (L16 n)) []:=by
 have d1:decide ((n:Int)≥4294967296)=false:=Cq (by omega);have d2:decide ((n:Int)≥65536)=false:=Cq (by omega);by_cases h8:n<256
 ·have d3:decide ((n:Int)≥256)=false:=Cq (by omega);have hw:IntKind.u8.wrap (n:Int)=n:=by rw[IntKind.wrap_u8];omega
  rw[L16,Aj h8];refine qd WQ mixm (by simp) fun e _ hst=>qh ?_;unfold kX;simp only[tZ,↓un_u,simprocAttr,d1,d2,d3,hw,Ax,jQ8];refine⟨⟨by omega,Int.ofNat_lt.2 h8⟩,.imR (congrArg (fun k:Nat=>vI (k:Int)) ?_) rfl⟩;clear d1 d2 d3 hw h;unfold L8
  revert n
  decide +kernel
 ·have d3:decide ((n:Int)≥256)=true:=Cx (by omega);have hs:shrI .u64 (n:Int) 8=((n / 256:Nat):Int):=by
   simp only[shrI];rw[show min (8:Int).toNat IntKind.u64.bits=8 from rfl,show (2:Int) ^ 8=256 from rfl,DW _ (by omega)];omega
  have hw:IntKind.u8.wrap ((n / 256:Nat):Int)=((n / 256:Nat):Int):=by rw[IntKind.wrap_u8];omega
  have hw2:IntKind.i64.wrap (0+8)=8:=by decide
  rw[L16,Aq h8];refine qd WQ mixm (by simp) fun e _ hst=>qh ?_;unfold kX;simp only[tZ,↓un_u,simprocAttr,d1,d2,d3,hs,hw,hw2,Ax];have hm:n / 256<256:=by omega
  refine⟨⟨by omega,Int.ofNat_lt.2 hm⟩,.imR (congrArg vI ?_) rfl⟩;clear d1 d2 d3 hw hw2 hs h h8 hst;generalize n / 256=m at *
  unfold L8
  revert m
  decide +kernel
theorem zi0 (n:Nat) (h:n<65536):∃ l:Nat,(l≤16∧n<2 ^ l∧(0<n→2 ^ l≤2*n))∧Spc Tryz.prog KL [vU64 n] [] (vI l) []:=by
 have hs:=qO7 n h;refine⟨L16 n,kj9 n h,?_⟩;refine qd qT4 mixm (by simp) fun e _ hst=>qh ?_;unfold JI;refine sW ?_;refine C1.im hs (by rfl) (by rfl) ?_;refine sW ?_;exact .imR rfl rfl
def xs1 (v:Int):Int:=xorI .u64 v (shlI .u64 v 13)
def xs2 (v:Int):Int:=xorI .u64 v (shrI .u64 v 7)
end Go.Proofs
namespace Go.Proofs
open Go Go.TL
open Go.TL.So
set_option maxHeartbeats 2000000
end Go.Proofs
namespace Go.Proofs
open Go Go.TL
set_option maxRecDepth 4000
set_option maxHeartbeats 8000000
open So
end Go.Proofs
namespace Go.Proofs
open Go Go.TL
set_option maxRecDepth 4000
set_option maxHeartbeats 8000000
open So
end Go.Proofs
namespace Go.Proofs
open Go Go.TL
set_option maxRecDepth 4000
set_option maxHeartbeats 4000000
structure DrE (x:Src) (d:Edt):Prop where
 kind:1≤d.kind∧d.kind≤4
 len:d.row.length≤8
 id:0≤d.id∧d.id≤1048575
end Go.Proofs
