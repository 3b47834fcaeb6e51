/- A part of the proof: trees of Go values, short forms, contracts. -/
import Derived.WalkKit
import Derived.Still
import Derived.MapKept
import GoSem.Builtin.Cap
import Derived.Laws.Externs
import GoSem.Extern.SlicesOverlaps
import Derived.Carry
import Derived.ProofKit
import Derived.OpenShut
import Derived.HandedShaped
import Derived.Lay
import Derived.LaidLaws
import Derived.MakeChecks
import Derived.SevenTiedAt
import Derived.Test.YtiddpnhnaooohaaGreatDoorChecked
import Derived.Test.YtiddpnhnaooohaaGreatDoorK21
set_option linter.unusedSimpArgs false
set_option linter.unusedVariables false
namespace Go.Proofs
open Go Go.TL
set_option maxRecDepth 4000
set_option maxHeartbeats 8000000
theorem qw4 (s:Sch) (hok:SchOk s) (q:Qst) (hd:q.dims.length≤3) (ht:q.terms.length≤3) (hc:∀ c∈cnsL q,chkC s c = 0) (k a b:Int):Spc Tryz.prog Qw [schT s,qstT q,vI k,vI a,vI b] [] (vB (jf1 s q k a b)) []:=by
 have hs:=hok.sm
 have hT:jf1 s q k a b = ((usB q k && (a != b)) || (q.dims.any fun d=>(d.col == k) && (qr s k d.lev a != qr s k d.lev b)) || ((cnsL q).any fun c=>(atsC c).any fun x=>(x.col == k) && (zH s x a != zH s x b))):=rfl
 have hcl:(cnsL q).length≤2:=by unfold cnsL;split <;> simp
 rw [hT]
 refine qd qo5 mixm (by simp) fun e _ hst=>qj ?_
 unfold yL
 refine sW ?_
 refine C1.im (Wl q k (by omega)) (by rfl) (by rfl) ?_
 refine sW ?_
 generalize (usB q k && (a != b)) = U
 refine ⟨fun h=>?_,fun h=>?_⟩
 ·rw [h]
  exact .oA [] []
 rw [h,Bool.false_or]
 refine qw mixm (α:=Nat) [28] (fun i=>i≤q.dims.length∧((q.dims.take i).any fun d=>(d.col == k) && (qr s k d.lev a != qr s k d.lev b)) = false) (fun i=>[(28,vI i)]) (fun i=>[(4096,.arr 2 [schT s] false),(4100,.arr 17 [qstT q] false)]) (fun i=>q.dims.length - i) 0 ⟨by omega,rfl⟩ ?_ fun i hi=>?_
 ·exact .oA [(4096,some 4096),(4100,some 4100)] []
 refine sD ?_
 refine ⟨fun h3=>?_,fun h3=>?_⟩
 ·have hi2:i < q.dims.length:=by omega
  have hwi:=qk (i:=i) (by omega)
  simp only [tZ,↓un_u,simprocAttr,Int.toNat_natCast,qe hi2]
  refine ⟨by omega,?_⟩
  have hC:=fun v=>qF4 s hs k q.dims[i].lev v
  refine C2.im (fun _=>hC a) (fun _=>rfl) (by rfl) ?_
  refine sW ?_
  refine C2.im (fun _=>hC b) (fun _=>rfl) (by rfl) ?_
  simp only [tZ,↓un_u,simprocAttr,hwi]
  repeat (first | refine ⟨by omega,?_⟩ | refine ⟨by kernel_rfl,?_⟩)
  refine ⟨fun h4=>?_,fun h4=>?_⟩
  ·rw [qs9 hi2 h4,Bool.true_or]
   exact .oA [] []
  ·refine ⟨i + 1,⟨by omega,jB hi2 hi.2 h4⟩,by omega,?_⟩
   exact .oA [(4096,some 4096),(4100,some 4100)] []
 ·have hil:i = q.dims.length:=by omega
  subst hil
  have hi2:=hi.2
  rw [List.take_length] at hi2
  rw [hi2,Bool.false_or]
  refine C1.im (Ko q) (by rfl) (by rfl) ?_
  generalize cnsL q = L at hc hcl ⊢
  refine sW ?_
  refine qw mixm (α:=Nat) [55] (fun i=>i≤L.length∧((L.take i).any fun c=>(atsC c).any fun x=>(x.col == k) && (zH s x a != zH s x b)) = false) (fun i=>[(55,vI i)]) (fun i=>[(4096,.arr 2 [schT s] false)]) (fun i=>L.length - i) 0 ⟨by omega,rfl⟩ ?_ fun i hi=>?_
  ·exact .oA [(4096,some 4096)] []
  refine sD ?_
  refine ⟨fun h4=>?_,fun h4=>?_⟩
  ·have hi2:i < L.length:=by omega
   have hwi:=qk (i:=i) (by omega)
   obtain ⟨_,k2,_,k4⟩:=KZ (hc _ (List.getElem_mem hi2))
   have hal:=qq5 L[i] 41 (by omega) k2
   have hao:=qQ4 L[i] k4
   have hhit:(((atsC L[i]).any fun x=>(x.col == k) && (zH s x a != zH s x b)) = true)→(L.any fun c=>(atsC c).any fun x=>(x.col == k) && (zH s x a != zH s x b)) = true:=fun h=>qs9 hi2 h
   have hgo:(((atsC L[i]).any fun x=>(x.col == k) && (zH s x a != zH s x b)) = false)→((L.take (i + 1)).any fun c=>(atsC c).any fun x=>(x.col == k) && (zH s x a != zH s x b)) = false:=fun h=>jB hi2 hi.2 h
   simp only [tZ,↓un_u,simprocAttr,Int.toNat_natCast,qe hi2,zx]
   refine ⟨by omega,?_⟩
   refine C1.im (Kl L[i] 41 (by omega) (by omega) k2) (by rfl) (by rfl) ?_
   generalize atsC L[i] = A at hal hao hhit hgo ⊢
   refine sW ?_
   refine qw mixm (α:=Nat) [62] (fun j=>j≤A.length∧((A.take j).any fun x=>(x.col == k) && (zH s x a != zH s x b)) = false) (fun j=>[(62,vI j)]) (fun j=>[(4096,.arr 2 [schT s] false)]) (fun j=>A.length - j) 0 ⟨by omega,rfl⟩ ?_ fun j hj=>?_
   ·exact .oA [(4096,some 4096)] []
   refine sD ?_
   refine ⟨fun h5=>?_,fun h5=>?_⟩
   ·have hj2:j < A.length:=by omega
    have hwj:=qk (i:=j) (by omega)
    obtain ⟨hnd,ha⟩:=hao _ (List.getElem_mem hj2)
    have hAt:=Wj s hok A[j] hnd ha
    simp only [tZ,↓un_u,simprocAttr,Int.toNat_natCast,qe hj2,zx]
    refine ⟨by omega,?_⟩
    refine C2.im (fun _=>hAt a) (fun _=>rfl) (by rfl) ?_
    refine sW ?_
    refine C2.im (fun _=>hAt b) (fun _=>rfl) (by rfl) ?_
    simp only [tZ,↓un_u,simprocAttr,hwj]
    repeat (first | refine ⟨by omega,?_⟩ | refine ⟨by kernel_rfl,?_⟩)
    refine ⟨fun h6=>?_,fun h6=>?_⟩
    ·rw [hhit (qs9 hj2 h6)]
     exact .oA [] []
    ·refine ⟨j + 1,⟨by omega,jB hj2 hj.2 h6⟩,by omega,?_⟩
     exact .oA [(4096,some 4096)] []
   ·have hjl:j = A.length:=by omega
    subst hjl
    have hj2:=hj.2
    rw [List.take_length] at hj2
    simp only [tZ,↓un_u,simprocAttr,hwi]
    refine ⟨i + 1,⟨by omega,hgo hj2⟩,by omega,?_⟩
    exact .oA [(4096,some 4096)] []
  ·have hil:i = L.length:=by omega
   subst hil
   have hi2:=hi.2
   rw [List.take_length] at hi2
   rw [hi2]
   exact .oA [] []
def qR2 (s:Sch) (q:Qst) (k a b:Int):Bool:=(qstE s q == 0) && canB s k a && canB s k b && jf1 s q k a b
theorem qr5 (s:Sch) (hs:Qp s) (q:Qst) (k a b:Int):Spc Tryz.prog yD [schT s,qstT q,vI k,vI a,vI b] [] (vB (qR2 s q k a b)) []:=by
 refine qd qh2 mixm (by simp) fun e _ hst=>qj ?_
 unfold yc
 refine sW ?_
 refine C1.im (ka s hs q) (by rfl) (by rfl) ?_
 by_cases h0:qstE s q = 0
 ·obtain ⟨hE,hc,hd,ht⟩:=jf2 h0
  simp only [tZ,↓un_u,simprocAttr,h0,beq_self_eq_true]
  refine C2.im (fun _=>Yv s hE k a) (fun _=>rfl) (by rfl) ?_
  refine sW ?_
  refine C2.im (fun _=>Yv s hE k b) (fun _=>rfl) (by rfl) ?_
  refine sW ?_
  refine C2.im (fun _=>qw4 s (qJ hE) q hd ht hc k a b) (fun _=>rfl) (by rfl) ?_
  refine sW ?_
  rw [show qR2 s q k a b = (canB s k a && canB s k b && jf1 s q k a b) by rw [qR2,h0];simp]
  exact .oA [] []
 ·have e:(qstE s q == 0) = false:=beq_eq_false_iff_ne.2 h0
  rw [show qR2 s q k a b = false by rw [qR2,e];rfl]
  simp only [tZ,↓un_u,simprocAttr,e]
  refine C2.no (by simp) ?_
  refine sW ?_
  refine C2.no (by simp) ?_
  refine sW ?_
  refine C2.no (by simp) ?_
  refine sW ?_
  exact .oA [] []
end Go.Proofs
namespace Go.Proofs
open Go Go.TL
set_option maxRecDepth 4000
set_option maxHeartbeats 8000000
def mxc:List Pk→Int
 | []=>0
 | p :: r=>max p.col (mxc r)
theorem zW8:∀ l:List Pk,0≤mxc l
 | []=>Int.le_refl _
 | p :: r=>by have:=zW8 r;rw [mxc];omega
theorem zB2:∀ (l:List Pk) (p:Pk),mxc (l ++ [p]) = max (mxc l) p.col
 | [],p=>by show max p.col 0 = max 0 p.col;omega
 | q :: r,p=>by rw [List.cons_append,mxc,mxc,zB2 r p];omega
theorem jm1 {n:Int} (hn:0≤n):∀ {l:List Pk},(∀ p∈l,p.col≤n)→mxc l≤n
 | [],_=>hn
 | p :: r,h=>by
   have h1:=h p (by simp)
   have h2:=jm1 hn (l:=r) fun q hq=>h q (List.mem_cons_of_mem _ hq)
   rw [mxc];omega
theorem jm2:∀ {l:List Pk} {p:Pk},p∈l→p.col≤mxc l
 | q :: r,p,h=>by
   rw [mxc]
   rcases List.mem_cons.1 h with e | h
   ·rw [e];omega
   ·have:=jm2 h;omega
theorem qr6 (ls:List (List Pk)) (n:Nat) (h1:1≤n) (h2:n≤1000) (hls:ls.length≤1000) (hl:∀ l∈ls,l.length≤1000) (hb:∀ l∈ls,∀ p∈l,0≤p.col∧p.col < n) :
 Spc Tryz.prog yH [.sl 1 (ls.map vPs)] [] (vPs (canF (fun k=>mxl ls.flatten k) n)) []:=by
 refine qd qi9 mixm (by simp) fun e _ hst=>qj ?_
 unfold yk
 refine sW ?_
 refine qw mixm (α:=Nat×List (Int×Int)) [4,14] (fun y=>y.1≤ls.length∧∀ k,(TL.look TL.eqI k y.2).getD 0 = mxl (ls.take y.1).flatten k) (fun y=>[(4,vI (mxc (ls.take y.1).flatten)),(14,vI y.1)]) (fun y=>[(8192,.mp (.ii y.2))]) (fun y=>ls.length - y.1) (0,[]) ⟨by simp,fun k=>rfl⟩ ?_ fun y hy=>?_
 ·exact .oA [(8192,some 8192)] []
 obtain ⟨i,M⟩:=y
 obtain ⟨y1,y2⟩:=hy
 dsimp only at y1 y2
 refine sD ?_
 refine ⟨fun h=>?_,fun h=>?_⟩
 ·have hi:i < ls.length:=by omega
  have hwi:=qk (i:=i) (by omega)
  have hll:=hl _ (List.getElem_mem hi)
  have hbb:=hb _ (List.getElem_mem hi)
  have hfl:(ls.take (i + 1)).flatten = (ls.take i).flatten ++ ls[i]:=by rw [qM hi,List.flatten_append];simp
  generalize (ls.take i).flatten = A at y2 hfl ⊢
  simp only [tZ,↓un_u,simprocAttr,Int.toNat_natCast,qe hi]
  refine ⟨by omega,?_⟩
  generalize ls[i] = l at hll hbb hfl ⊢
  refine qw mixm (α:=Nat×List (Int×Int)) [4,20] (fun y=>y.1≤l.length∧∀ k,(TL.look TL.eqI k y.2).getD 0 = mxl (A ++ l.take y.1) k) (fun y=>[(4,vI (mxc (A ++ l.take y.1))),(20,vI y.1)]) (fun y=>[(8192,.mp (.ii y.2))]) (fun y=>l.length - y.1) (0,M) ⟨by simp,fun k=>by rw [List.take_zero,List.append_nil];exact y2 k⟩ ?_ fun y hy=>?_
  ·refine .of [(8192,some 8192)] [] rfl (by first | rfl | (rw [hst];rfl)) ?_ ?_
   all_goals (try simp only [tL,simprocAttr,List.map_append,List.map_cons,List.map_nil,List.cons_append,List.nil_append,List.take_zero,List.append_nil])
   all_goals (try (repeat' (first | exact zh | (apply zU;intro _;exact ⟨rfl,rfl⟩) | (apply qK;intro _;exact ⟨rfl,rfl⟩) | with_reducible apply qX | with_reducible refine qZ ⟨rfl,rfl⟩ ?_ | exact zn | with_reducible apply qR | with_reducible refine qQ ⟨rfl,rfl,?_⟩ ?_ | with_reducible apply And.intro | exact qS rfl | exact qS (by assumption) | (refine ⟨⟨?_,rfl,?_,rfl,?_⟩,trivial⟩ <;> first | (simp;done) | (apply qK;intro _;exact ⟨rfl,rfl⟩)) | trivial | rfl | (rw [qk (by omega)]) | omega)))
  obtain ⟨j,N⟩:=y
  obtain ⟨z1,z2⟩:=hy
  dsimp only at z1 z2
  refine sD ?_
  refine ⟨fun h5=>?_,fun h5=>?_⟩
  ·have hj:j < l.length:=by omega
   have hwj:=qk (i:=j) (by omega)
   have hts:A ++ l.take (j + 1) = A ++ l.take j ++ [l[j]]:=by rw [qM hj,List.append_assoc]
   have hnew:∀ k,(TL.look TL.eqI k (TL.asg TL.eqI l[j].col (max (mxl (A ++ l.take j) l[j].col) l[j].lev) N)).getD 0 = mxl (A ++ l.take (j + 1)) k:=fun k=>by
    rw [qm0,hts,zA9]
    by_cases e:k = l[j].col
    ·subst e
     rw [if_pos rfl,if_pos rfl];rfl
    ·rw [if_neg e,if_neg (fun h=>e h.symm)]
     exact z2 k
   have hx:=zB2 (A ++ l.take j) l[j]
   rw [← hts] at hx
   have hz:=z2 l[j].col
   simp only [tZ,↓un_u,simprocAttr,Int.toNat_natCast,qe hj,hwj,qQ9,hz,← hx]
   refine ⟨by omega,by kernel_rfl,?_⟩
   refine ⟨(j + 1,_),⟨by dsimp only;omega,hnew⟩,by dsimp only;omega,?_⟩
   exact .oA [(8192,some 8192)] []
  ·have hjl:j = l.length:=by omega
   subst hjl
   rw [List.take_length,← hfl] at z2 ⊢
   simp only [tZ,↓un_u,simprocAttr,hwi]
   refine ⟨(i + 1,N),⟨by dsimp only;omega,z2⟩,by dsimp only;omega,?_⟩
   exact .oA [(8192,some 8192)] []
 ·have hil:i = ls.length:=by omega
  subst hil
  rw [List.take_length] at y2 ⊢
  have hbf:∀ p∈ls.flatten,0≤p.col∧p.col < n:=fun p hp=>by
   obtain ⟨l,hl,hpl⟩:=List.mem_flatten.1 hp
   exact hb l hl p hpl
  have hml:=jm1 (n:=n - 1) (by omega) (l:=ls.flatten) fun p hp=>by have:=hbf p hp;omega
  have hmp:=zW8 ls.flatten
  have hmore:canF (fun k=>mxl ls.flatten k) n = canF (fun k=>mxl ls.flatten k) ((mxc ls.flatten).toNat + 1):=by
   rw [show n = (mxc ls.flatten).toNat + 1 + (n - ((mxc ls.flatten).toNat + 1)) by omega,zj6]
   intro k hk _
   rw [Jh fun p hp=>by have:=jm2 hp;omega]
   exact Int.le_refl _
  rw [hmore]
  obtain ⟨c,hc⟩:=Int.eq_ofNat_of_zero_le hmp
  rw [hc,Int.toNat_natCast]
  have hwc:=qk (i:=c) (by omega)
  rw [hwc]
  generalize ls.flatten = A at y2 ⊢
  refine qw mixm (α:=Nat) [9,42] (fun k=>k≤c + 1) (fun k=>[(9,.asl 1 (canF (fun k=>mxl A k) k).length),(42,vI k)]) (fun k=>[(8192,.mp (.ii M)),(1,.arr 2 ((canF (fun k=>mxl A k) k).map pkT) false)]) (fun k=>c + 1 - k) 0 (by omega) ?_ fun k hk=>?_
  ·exact .oA [(8192,some 8192),(1,none)] []
  have hcl:=qY0 (fun k=>mxl A k) k
  have hcs:canF (fun k=>mxl A k) (k + 1) = canF (fun k=>mxl A k) k ++ (if 0 < mxl A k then [⟨(k:Nat),mxl A k⟩] else []):=by rw [canF]
  have hz:=y2 k
  refine sD ?_
  refine ⟨fun h5=>?_,fun h5=>?_⟩
  ·have hwk:=qk (i:=k) (by omega)
   simp only [tZ,↓un_u,simprocAttr,hz,hwk,gt_iff_lt,tD]
   refine ⟨fun h6=>?_,fun h6=>?_⟩
   ·rw [if_pos h6] at hcs
    refine ⟨by omega,k + 1,by omega,by omega,?_⟩
    rw [hcs,List.map_append,List.length_append]
    exact .oA [(8192,some 8192),(1,some 1)] []
   ·rw [if_neg h6,List.append_nil] at hcs
    refine ⟨k + 1,by omega,by omega,?_⟩
    rw [hcs]
    exact .oA [(8192,some 8192),(1,some 1)] []
  ·rw [show k = c + 1 by omega]
   exact .oA [] [1]
theorem zj9 {s:Sch} {q:Qst} (hq:QstOk s q):∀ d∈q.dims,wJ s d = 0∧isB s d.col 2 = true:=fun d hd=>by
 by_cases h1:q.kind = 1
 ·have h2:=(hq.dims h1).1
  unfold JO at h2
  split at h2
  ·cases h2
  obtain ⟨i,hi,rfl⟩:=List.getElem_of_mem hd
  have h3:=qq0 h2 i hi
  have hp:pkAt q.dims i = q.dims[i]:=by rw [pkAt,qh hi]
  unfold dimE at h3
  rw [hp] at h3
  split at h3
  ·rename_i h4;exact absurd h3 h4
  rename_i h4
  split at h3
  ·cases h3
  rename_i h5
  exact ⟨Classical.byContradiction h4,by simpa using h5⟩
 ·rw [hq.d0 h1] at hd
  simp at hd
theorem qR3 {s:Sch} {q:Qst} (hq:QstOk s q):∀ c∈cnsL q,chkC s c = 0:=fun c hc=>by
 unfold cnsL at hc
 split at hc
 ·rename_i h
  rcases List.mem_cons.1 hc with e | hc
  ·rw [e];exact hq.filt
  ·rw [List.mem_singleton.1 hc];exact (hq.event h).2.2
 ·rw [List.mem_singleton.1 hc];exact hq.filt
theorem zW9 {s:Sch} {q:Qst} {n:Nat} {p:Pk}:p∈usP s q n↔∃ k:Nat,k < n∧usB q k = true∧p = ⟨k,yv s k (finI s k)⟩:=by
 unfold usP
 simp only [List.mem_map,List.mem_filter,List.mem_range]
 constructor
 ·rintro ⟨k,⟨h1,h2⟩,rfl⟩;exact ⟨k,h1,h2,rfl⟩
 ·rintro ⟨k,h1,h2,rfl⟩;exact ⟨k,⟨h1,h2⟩,rfl⟩
theorem jr3 (s:Sch) (q:Qst) (n:Nat):(usP s q n).length≤n:=by
 unfold usP
 rw [List.length_map]
 have:=List.length_filter_le (fun k:Nat=>usB q k) (List.range n)
 rw [List.length_range] at this
 exact this
def qr7 (s:Sch) (q:Qst):List Pk:=dmP s q ++ usP s q s.cols.length ++ (cnsL q).flatMap (zO s)
theorem qY3 {s:Sch} {q:Qst} (hq:QstOk s q):∀ p∈qr7 s q,1≤p.col∧p.col < s.cols.length:=fun p hp=>by
 unfold qr7 at hp
 rcases List.mem_append.1 hp with hp | hp
 ·rcases List.mem_append.1 hp with hp | hp
  ·obtain ⟨d,hd,rfl⟩:=List.mem_map.1 hp
   obtain ⟨_,h1,h2,_⟩:=qk8 (zj9 hq d hd).1
   exact ⟨h1,h2⟩
  ·obtain ⟨k,h1,h2,rfl⟩:=zW9.1 hp
   unfold usB at h2
   rw [Bool.and_eq_true,decide_eq_true_eq] at h2
   exact ⟨by dsimp only;omega,by dsimp only;omega⟩
 ·obtain ⟨c,hc,hp⟩:=List.mem_flatMap.1 hp
  exact jf3 (qR3 hq c hc) p hp
theorem qr8 {s:Sch} {q:Qst} (h:qstE s q = 0):qe3 s q = canF (fun k=>mxl (qr7 s q) k) s.cols.length:=by
 have hq:=qq6 h
 have hb:=qY3 hq
 obtain ⟨n1,n2⟩:=Kp hq.filt
 rw [zp5 h,n1,qr4 _ (fun k=>JT _ _) fun p hp=>?_]
 ·refine Km fun k _=>?_
  rw [← qG0 hq.filt k]
  have e:(cnsL q).flatMap (zO s) = zO s q.filt ++ evP s q:=by
   unfold cnsL evP
   split <;> simp
  rw [qr7,e]
  simp only [qY1]
  omega
 ·have:p∈qr7 s q:=by
   unfold qr7
   have e:(cnsL q).flatMap (zO s) = zO s q.filt ++ evP s q:=by
    unfold cnsL evP
    split <;> simp
   rw [e]
   simp only [List.mem_append] at hp ⊢
   rcases hp with (h | h) | h
   ·exact .inr (.inr h)
   ·exact .inl (.inl h)
   ·exact .inl (.inr h)
  have:=hb p this
  omega
theorem Qb (s:Sch) (hs:Qp s) (q:Qst):Spc Tryz.prog jo [schT s,qstT q] [] (vPs (qe3 s q)) []:=by
 refine qb2 [15] qh6 mixm (by simp) fun e _ hst=>qj ?_
 unfold ye
 simp only [WM,List.contains_cons,List.contains_nil,Nat.reduceBEq,Bool.or_false,Bool.or_true,Bool.true_or,Bool.false_or,cond_true,cond_false]
 refine sW ?_
 refine C1.im (ka s hs q) (by rfl) (by rfl) ?_
 simp only [tZ,↓un_u,simprocAttr,bne_iff_ne,bne_eq_false_iff_eq]
 refine ⟨fun h=>?_,fun h=>?_⟩
 ·rw [qe3,if_pos h]
  exact .oA [] []
 have hq:=qq6 h
 have hok:=qJ hq.sch
 have hnc:=hok.nc
 have hnd:=hq.nd
 have hnt:=hq.nt
 have hck:=qR3 hq
 have hcl:(cnsL q).length≤2:=by unfold cnsL;split <;> simp
 have hdl:(dmP s q).length = q.dims.length:=List.length_map _
 have hbd:=qY3 hq
 refine qw mixm (α:=Nat) [5,19] (fun i=>i≤q.dims.length) (fun i=>[(5,.asl 1 ((dmP s q).take i).length),(19,vI i)]) (fun i=>[(4096,.arr 2 [schT s] false),(4100,.arr 17 [qstT q] false),(1,.arr 2 (((dmP s q).take i).map pkT) false)]) (fun i=>q.dims.length - i) 0 (by omega) ?_ fun i hi=>?_
 ·exact .oA [(4096,some 4096),(4100,some 4100),(1,none)] []
 refine sD ?_
 refine ⟨fun h3=>?_,fun h3=>?_⟩
 ·have hi2:i < q.dims.length:=by omega
  have hwi:=qk (i:=i) (by omega)
  have hts:(dmP s q).take (i + 1) = (dmP s q).take i ++ [⟨q.dims[i].col,yv s q.dims[i].col q.dims[i].lev⟩]:=by
   rw [qM (by omega)]
   simp only [dmP,List.getElem_map]
  have hLe:=qa7 s hs q.dims[i].col q.dims[i].lev
  have htl:((dmP s q).take i).length≤3:=by rw [List.length_take];omega
  simp only [tZ,↓un_u,simprocAttr,Int.toNat_natCast,qe hi2]
  refine ⟨by omega,?_⟩
  refine C1.im hLe (by rfl) (by rfl) ?_
  simp only [tZ,↓un_u,simprocAttr,hwi]
  refine ⟨by omega,by kernel_rfl,i + 1,by omega,by omega,?_⟩
  rw [hts,List.map_append,List.length_append]
  exact .oA [(4096,some 4096),(4100,some 4100),(1,some 1)] []
 ·have hil:i = q.dims.length:=by omega
  subst hil
  rw [← hdl,List.take_length]
  refine qw mixm (α:=Nat) [5,39] (fun i=>i≤s.cols.length) (fun i=>[(5,.asl 1 (dmP s q ++ usP s q i).length),(39,vI i)]) (fun i=>[(4096,.arr 2 [schT s] false),(4100,.arr 17 [qstT q] false),(1,.arr 2 ((dmP s q ++ usP s q i).map pkT) false)]) (fun i=>s.cols.length - i) 0 (by omega) ?_ fun i hi=>?_
  ·rw [show usP s q 0 = [] from rfl,List.append_nil]
   exact .oA [(4096,some 4096),(4100,some 4100),(1,some 1)] []
  have hul:=jr3 s q i
  have hus:=qY2 s q i
  have hoL:(dmP s q ++ usP s q i).length≤1000000:=by rw [List.length_append];omega
  refine sD ?_
  refine ⟨fun h3=>?_,fun h3=>?_⟩
  ·have hi2:i < s.cols.length:=by omega
   have hwi:=qk (i:=i) (by omega)
   refine C1.im (Wl q i (by omega)) (by rfl) (by rfl) ?_
   refine sW ?_
   refine ⟨fun h4=>?_,fun h4=>?_⟩
   ·rw [if_pos h4] at hus
    refine C1.im (yx s hs i) (by rfl) (by rfl) ?_
    refine sW ?_
    refine C1.im (qa7 s hs i (finI s i)) (by rfl) (by rfl) ?_
    simp only [tZ,↓un_u,simprocAttr,hwi]
    refine ⟨by omega,by kernel_rfl,i + 1,by omega,by omega,?_⟩
    rw [hus,← List.append_assoc,List.map_append,List.length_append (bs:=[_])]
    exact .oA [(4096,some 4096),(4100,some 4100),(1,some 1)] []
   ·rw [if_neg (by rw [h4];simp),List.append_nil] at hus
    simp only [tZ,↓un_u,simprocAttr,hwi]
    refine ⟨i + 1,by omega,by omega,?_⟩
    rw [hus]
    exact .oA [(4096,some 4096),(4100,some 4100),(1,some 1)] []
  ·have hil:i = s.cols.length:=by omega
   subst hil
   rw [qr8 h]
   unfold qr7 at hbd ⊢
   have hll:(dmP s q ++ usP s q s.cols.length).length = (dmP s q).length + (usP s q s.cols.length).length:=List.length_append
   generalize dmP s q ++ usP s q s.cols.length = own at hoL hbd hll ⊢
   refine W_le [(2,.ptr 4096 1 0 0),(3,.ptr 4100 1 0 0),(5,vPs own)] [(4096,.arr 2 [schT s] false),(4100,.arr 17 [qstT q] false)] ?_ ?_
   ·exact .oA [(4096,some 4096),(4100,some 4100)] [1]
   refine sW ?_
   refine C1.im (Ko q) (by rfl) (by rfl) ?_
   generalize cnsL q = L at hck hcl hbd ⊢
   refine sW ?_
   refine qw mixm (α:=Nat) [9,62] (fun i=>i≤L.length) (fun i=>[(9,.asl 65540 (i + 1)),(62,vI i)]) (fun i=>[(4096,.arr 2 [schT s] false),(65540,.arr 1 (vPs own :: (L.take i).map fun c=>vPs (zO s c)) false)]) (fun i=>L.length - i) 0 (by omega) ?_ fun i hi=>?_
   ·exact .oA [(4096,some 4096),(65540,some 65540)] []
   have htl:(L.take i).length = i:=by rw [List.length_take];omega
   refine sD ?_
   refine ⟨fun h3=>?_,fun h3=>?_⟩
   ·have hi2:i < L.length:=by omega
    have hwi:=qk (i:=i) (by omega)
    have hN:=qr3 s hs L[i]
    simp only [tZ,↓un_u,simprocAttr,Int.toNat_natCast,qe hi2,zx]
    refine ⟨by omega,?_⟩
    refine C1.im hN (by rfl) (by rfl) ?_
    simp only [tZ,↓un_u,simprocAttr,hwi]
    refine ⟨by omega,i + 1,by omega,by omega,?_⟩
    rw [qM hi2,List.map_append]
    exact .oA [(4096,some 4096),(65540,some 65540)] []
   ·have hil:i = L.length:=by omega
    subst hil
    rw [List.take_length]
    have hfl:(own :: L.map (zO s)).flatten = own ++ L.flatMap (zO s):=by rw [List.flatten_cons,List.flatMap_def]
    have hbb:∀ l∈own :: L.map (zO s),∀ p∈l,0≤p.col∧p.col < s.cols.length:=fun l hl p hp=>by
     have:=hbd p (by rw [← hfl];exact List.mem_flatten.2 ⟨l,hl,hp⟩)
     omega
    have hbl:∀ l∈own :: L.map (zO s),l.length≤1000:=fun l hl=>by
     rcases List.mem_cons.1 hl with e | hl
     ·rw [e];omega
     ·obtain ⟨c,_,rfl⟩:=List.mem_map.1 hl
      have:=ql2 s c
      omega
    have hM:=qr6 (own :: L.map (zO s)) s.cols.length (by omega) (by omega) (by rw [List.length_cons,List.length_map];omega) hbl hbb
    rw [hfl,List.map_cons,List.map_map] at hM
    refine C1.shut [65540] hM ?_ (by rfl) rfl ?_
    ·all_goals (try exact clA)
    refine sW ?_
    exact .oA [] []
theorem ZT (s:Sch) (hs:Qp s) (q:Qst) (l:List Pk) (hl:l.length < 4611686018427387904):Spc Tryz.prog jD [schT s,qstT q,vPs l] [] (vB (sufB s q l)) []:=by
 have hnl:=zj1 s q
 refine qd YP mixm (by simp) fun e _ hst=>qj ?_
 unfold kQ
 refine sW ?_
 refine C1.im (ka s hs q) (by rfl) (by rfl) ?_
 refine sW ?_
 refine C2.im (fun _=>qM5 s hs l hl) (fun _=>rfl) (by rfl) ?_
 refine sW ?_
 refine C2.im (fun _=>Qb s hs q) (fun _=>rfl) (by rfl) ?_
 refine sW ?_
 refine C2.im (fun _=>qm1 l (qe3 s q) hl (by omega)) (fun _=>rfl) (by rfl) ?_
 refine sW ?_
 rw [show (qstE s q == 0 && Qq s l == 0 && covB (qe3 s q) l) = sufB s q l from rfl]
 exact .oA [] []
end Go.Proofs
namespace Go.Proofs
open Go Go.TL
set_option maxRecDepth 4000
set_option maxHeartbeats 8000000
theorem zX0 {s:Sch} {l:List Pk} (hE:schE s = 0) (h1:∀ p∈l,wJ s p = 0) (h2:l.Pairwise fun a b=>a.col < b.col):Qq s l = 0:=by
 rw [Qq,if_neg (by rw [hE];simp)]
 refine qk6 fun i hi=>?_
 have hp:pkAt l i = l[i]:=by rw [pkAt,qh hi]
 rw [qk7,hp,if_neg (by rw [h1 _ (List.getElem_mem hi)];simp),if_neg]
 rintro ⟨h3,h4⟩
 rw [pkAt,qh (by omega)] at h4
 have:=List.pairwise_iff_getElem.1 h2 (i - 1) i (by omega) hi (by omega)
 omega
end Go.Proofs
namespace Go.Proofs
open Go Go.TL
set_option maxRecDepth 4000
set_option maxHeartbeats 8000000
theorem DrS.meas3 {s:Sch} (h:DrS s):(JP s 3).length≤3:=by
 obtain ⟨ms,hc,h1,h3⟩:=h.cs
 have key:∀ n,(Wa s 3 n).length≤n - 2:=by
  have e0:(qg s 0).kind = 1:=by rcases hc with ⟨hc,_⟩ | ⟨hc,_⟩ <;> (rw [qg,hc];rfl)
  have e1:(qg s 1).kind = 2:=by rcases hc with ⟨hc,_⟩ | ⟨hc,_⟩ <;> (rw [qg,hc];rfl)
  intro n
  induction n with
  | zero=>simp [Wa]
  | succ n ih=>
    rw [jS,List.length_append]
    by_cases k0:n = 0
    ·subst k0;rw [e0,if_neg (by decide),List.length_nil];omega
    ·by_cases k1:n = 1
     ·subst k1;rw [e1,if_neg (by decide),List.length_nil];omega
     ·split <;> simp <;> omega
 rcases hc with ⟨hc,hm⟩ | ⟨hc,hm⟩
 ·have:=key s.cols.length
  have hl:s.cols.length = ms.length + 2:=by rw [hc];rfl
  unfold JP;omega
 ·have e2:(qg s 2).kind = 2:=by rw [qg,hc];rfl
  have k2:∀ n,3≤n→(Wa s 3 n).length≤n - 3:=by
   intro n hn
   induction n with
   | zero=>omega
   | succ n ih=>
     by_cases k:n = 2
     ·subst k
      rw [jS,e2,if_neg (by decide),List.append_nil]
      have:=key 2;omega
     ·rw [jS,List.length_append]
      have:=ih (by omega)
      split <;> simp <;> omega
  have hl:s.cols.length = ms.length + 3:=by rw [hc];rfl
  have:=k2 s.cols.length (by omega)
  unfold JP;omega
theorem jf4 {s:Sch} {m:Int} {ts:List Int} (h1:1≤ts.length) (h2:ts.length≤3) (h3:∀ v∈ts,isB s v 3 = true∧v≠m) (h4:ts.Nodup):yu s m ts = 0:=by
 rw [yu,if_neg (by omega)]
 refine qk6 fun i hi=>?_
 have hpi:ts.getD i 0 = ts[i]:=qh hi
 obtain ⟨a,b⟩:=h3 _ (List.getElem_mem hi)
 rw [zi4,hpi,if_neg (by rw [a];simp),if_neg]
 rintro (k | k)
 ·exact b k
 ·obtain ⟨j,hj,e⟩:=List.mem_take_iff_getElem.1 (List.contains_iff_mem.1 k)
  exact List.pairwise_iff_getElem.1 h4 j i (by omega) hi (by omega) e
theorem qm3 (s:Sch) (hd:DrS s) (m:Int) (l:List UInt8) (a:Nat) (hl:l.length≤400) (ha:a≤l.length) :
 ∃ r:List Int×Nat,((r.1.length≤3∧(0 < r.1.length→yu s m r.1 = 0))∧r.2≤l.length)∧Spc Tryz.prog wP [.ptr 0 1 0 0,schT s,vI m] [(0,oC l a)] (vIs r.1) [(0,oC l r.2)]:=by
 have hE:=hd.ok
 have hnc:=(qJ hE).nc
 have hc:=Qi s 3 (by omega)
 have hm:=fun v=>(ZP (s:=s) (kind:=3) (v:=v)).1
 have hnd:=qF2 s 3
 have hc3:=hd.meas3
 generalize JP s 3 = L at hc hm hnd hc3
 refine jy qc3 mixm (fun r:List Int×Nat=>vIs r.1) (fun r=>[(0,oC l r.2)]) (by simp) ?_
 unfold wz
 refine sW ?_
 refine XE.mp (fun _ _=>C1.im hc (by rfl) (by rfl)) ?_
 refine sW ?_
 refine XE.loopF mixm [7,14] (fun y:Nat×List Int×Nat=>y.1≤L.length∧y.2.1.Sublist (L.take y.1)∧(∀ v∈y.2.1,v≠m)∧y.2.2≤l.length) (fun y=>[(7,.asl 1 y.2.1.length),(14,vI y.1)]) (fun y=>[(0,oC l y.2.2),(4096,.arr 2 [schT s] false),(1,.arr 1 (y.2.1.map vI) false)]) (fun y=>L.length - y.1) (0,[],a) ⟨by simp,by simp,by simp,ha⟩ (fun e ⟨_,hst⟩=>?_) fun T' y hy ih=>?_
 ·exact .oA [(0,some 0),(4096,some 4096),(1,none)] []
 obtain ⟨i,ts,a1⟩:=y
 obtain ⟨y1,y2,y3,y4⟩:=hy
 dsimp only at y1 y2 y3 y4
 have hsl:=y2.length_le
 rw [List.length_take] at hsl
 simp only [tZ,↓un_u,simprocAttr,decide_eq_true_eq,decide_eq_false_iff_not]
 refine XE.brN (fun h4=>?_) (fun h4=>?_)
 ·have hi2:i < L.length:=by omega
  have hwi:=qk (i:=i) (by omega)
  have htk:=qM hi2
  have hsub:ts.Sublist (L.take (i + 1)):=by rw [htk];exact y2.trans (List.sublist_append_left _ _)
  have hsub2:(ts ++ [L[i]]).Sublist (L.take (i + 1)):=by rw [htk];exact y2.append (List.Sublist.refl _)
  have hgi:(L.map vI).getD i .junk = vI L[i]:=qe hi2
  obtain ⟨o,a2,ha2,sO⟩:=jq4 l a1 2 hl y4 (by omega)
  generalize L[i] = v at hgi hsub2
  simp only [tZ,↓un_u,simprocAttr,Int.toNat_natCast,hgi]
  refine XE.sd (by omega) ?_
  by_cases hv:v = m
  ·have q:(v != m) = false:=bne_eq_false_iff_eq.2 hv
   simp only [tZ,↓un_u,simprocAttr,q]
   refine XE.mp (fun _ _=>C2.no (by simp)) ?_
   simp only [tZ,↓un_u,simprocAttr,hwi]
   refine XE.next ih (i + 1,ts,a1) ⟨by dsimp only;omega,hsub,y3,y4⟩ (by dsimp only;omega) fun e ⟨_,hst⟩=>?_
   exact .oA [(0,some 0),(4096,some 4096),(1,some 1)] []
  ·have q:(v != m) = true:=bne_iff_ne.2 hv
   have hin:∀ u∈ts ++ [v],u≠m:=fun u hu=>by
    rcases List.mem_append.1 hu with h | h
    ·exact y3 u h
    ·rw [List.mem_singleton.1 h];exact hv
   by_cases hts:ts.length = 0
   ·have q2:((ts.length:Int) == 0) = true:=beq_iff_eq.2 (by omega)
    simp only [tZ,↓un_u,simprocAttr,q,q2]
    refine XE.mp (fun _ _=>C2.no (by simp)) ?_
    simp only [tZ,↓un_u,simprocAttr,Int.toNat_natCast,hgi,hwi]
    refine XE.sd (by omega) (XE.sd (by omega) ?_)
    refine XE.next ih (i + 1,ts ++ [v],a1) ⟨by dsimp only;omega,hsub2,hin,y4⟩ (by dsimp only;omega) fun e ⟨_,hst⟩=>?_
    exact .oA [(0,some 0),(4096,some 4096),(1,some 1)] []
   ·have q2:((ts.length:Int) == 0) = false:=beq_eq_false_iff_ne.2 (by omega)
    simp only [tZ,↓un_u,simprocAttr,q,q2]
    refine XE.mp (fun _ _=>C2.one (by trivial)) ?_
    refine XE.mp (fun _ _=>C1.draw 0 l a1 _ sO rfl rfl rfl) ?_
    simp only [tZ,↓un_u,simprocAttr,Int.toNat_natCast,hgi,hwi]
    refine XE.brB (fun h5=>?_) (fun h5=>?_)
    ·refine XE.sd (by omega) (XE.sd (by omega) ?_)
     refine XE.next ih (i + 1,ts ++ [v],a2) ⟨by dsimp only;omega,hsub2,hin,ha2⟩ (by dsimp only;omega) fun e ⟨_,hst⟩=>?_
     exact .oA [(0,some 0),(4096,some 4096),(1,some 1)] []
    ·refine XE.next ih (i + 1,ts,a2) ⟨by dsimp only;omega,hsub,y3,ha2⟩ (by dsimp only;omega) fun e ⟨_,hst⟩=>?_
     exact .oA [(0,some 0),(4096,some 4096),(1,some 1)] []
 ·have hil:i = L.length:=by omega
  rw [hil,List.take_length] at y2
  refine XE.fin (ts,a1) ⟨⟨by dsimp only;omega,fun h=>jf4 h (by dsimp only;omega) (fun v hv=>⟨hm v (y2.subset hv),y3 v hv⟩) (hnd.sublist y2)⟩,y4⟩ fun e ⟨_,hst⟩=>?_
  exact .oA [(0,some 0)] [1]
end Go.Proofs
namespace Go.Proofs
open Go Go.TL
set_option maxRecDepth 4000
set_option maxHeartbeats 8000000
theorem jx3:qe2 cnd0 cnd0 = true:=by decide +kernel
theorem qx4 {s:Sch} {nm:ByteArray} {c:Cnd} {ds:List Pk} {m:Int} (hE:schE s = 0) (h1:ky nm = true) (h2:chkC s c = 0) (h3:JO s ds = 0) (h4:m = -1∨isB s m 3 = true):qstE s ⟨nm,1,c,ds,m,[],cnd0⟩ = 0:=by
 have hp:kK s ⟨nm,1,c,ds,m,[],cnd0⟩ = 0:=by
  rw [kK,if_pos rfl,if_neg (by rw [h3];simp),if_neg]
  rintro ⟨a,b⟩
  rcases h4 with h | h
  ·exact a h
  ·rw [h] at b;cases b
 rw [qstE,if_neg (by rw [hE];simp),if_neg (by rw [h1];simp),if_neg (by simp),if_neg (by rw [h2];simp),if_neg (by rw [hp];simp),if_neg (by rw [jx3];simp)]
theorem jf5 {s:Sch} {nm:ByteArray} {c:Cnd} {ts:List Int} {m:Int} (hE:schE s = 0) (h1:ky nm = true) (h2:chkC s c = 0) (h3:yu s m ts = 0) (h4:isB s m 3 = true):qstE s ⟨nm,2,c,[],m,ts,cnd0⟩ = 0:=by
 have hp:kK s ⟨nm,2,c,[],m,ts,cnd0⟩ = 0:=by
  rw [kK,if_neg (by simp),if_pos rfl,if_neg (by rw [h4];simp)]
  exact h3
 rw [qstE,if_neg (by rw [hE];simp),if_neg (by rw [h1];simp),if_neg (by simp),if_neg (by rw [h2];simp),if_neg (by rw [hp];simp),if_neg (by rw [jx3];simp)]
theorem jf6 {s:Sch} {nm:ByteArray} {c d:Cnd} {m:Int} (hE:schE s = 0) (h1:ky nm = true) (h2:chkC s c = 0) (h3:chkC s d = 0) (h4:isB s m 3 = true) (h5:0≤(qg s m.toNat).low):qstE s ⟨nm,3,c,[],m,[],d⟩ = 0:=by
 have hp:kK s ⟨nm,3,c,[],m,[],d⟩ = 0:=by
  rw [kK,if_neg (by simp),if_neg (by simp),if_neg (by rw [h4];simp),if_neg (by dsimp only;omega)]
  exact h3
 rw [qstE,if_neg (by rw [hE];simp),if_neg (by rw [h1];simp),if_neg (by simp),if_neg (by rw [h2];simp),if_neg (by rw [hp];simp),if_neg (by simp)]
theorem CndOk.mono {s:Sch} {n m:Nat} {c:Cnd} (h:CndOk s n c) (hn:n≤m):CndOk s m c:=by
 have h1:=h.dep
 have h2:=h.siz
 have h3:2 ^ (n + 1)≤2 ^ (m + 1):=Nat.pow_le_pow_right (by omega) (by omega)
 exact ⟨h.ok,by omega,by omega⟩
theorem WD (s:Sch) (hd:DrS s) (nm:ByteArray) (hnm:ky nm = true) (l:List UInt8) (a:Nat) (hl:l.length≤400) (ha:a≤l.length) :
 ∃ r:Qst×Nat,((qstE s r.1 = 0∧r.1.name = nm∧CndOk s 2 r.1.filt)∧r.2≤l.length)∧Spc Tryz.prog zz [.ptr 0 1 0 0,schT s,vS nm] [(0,oC l a)] (qstT r.1) [(0,oC l r.2)]:=by
 have hE:=hd.ok
 have hok:=qJ hE
 have hnc:=hok.nc
 have hat:∀ i (h:i < s.cols.length),qg s i = s.cols[i]:=fun i h=>by rw [qg,qh h]
 obtain ⟨j,a1,j1,j2,ha1,sN⟩:=ZO l a 3 hl ha (by omega)
 obtain ⟨D,rfl⟩:=Int.eq_ofNat_of_zero_le j1
 obtain ⟨⟨c,a2⟩,⟨hc,ha2⟩,sC⟩:=Kk s hd l hl D a1 ha1 (by omega)
 dsimp only at hc ha2 sC
 have hcf:=hc.chk hE (by omega)
 have hcm:=hc.mono (m:=2) (by omega)
 obtain ⟨v,a3,hv,ha3,sV⟩:=yX s hd l a2 hl ha2
 obtain ⟨_,v2,v3⟩:=zt.1 hv
 rw [Int.toNat_natCast] at v3
 have hil:v < s.cols.length:=by omega
 obtain ⟨w,a4,w1,w2,ha4,sK⟩:=ZO l a3 4 hl ha3 (by omega)
 refine jy Wq mixm (fun r:Qst×Nat=>qstT r.1) (fun r=>[(0,oC l r.2)]) (by simp) ?_
 unfold jV
 refine sW ?_
 refine XE.mp (fun _ _=>C1.draw 0 l a _ sN rfl rfl rfl) ?_
 refine sW ?_
 refine XE.mp (fun _ _=>C1.draw 0 l a1 _ sC rfl rfl rfl) ?_
 refine sW ?_
 refine XE.sd (by kernel_rfl) ?_
 refine XE.mp (fun _ _=>C1.draw 0 l a2 _ sV rfl rfl rfl) ?_
 refine sW ?_
 refine XE.mp (fun _ _=>C1.draw 0 l a3 _ sK rfl rfl rfl) ?_
 simp only [tZ,↓un_u,simprocAttr,beq_iff_eq,beq_eq_false_iff_ne]
 refine XE.brN (fun h1=>?_) (fun h1=>XE.brN (fun h2=>?_) (fun h2=>XE.brN (fun h3=>?_) (fun h3=>?_)))
 ·obtain ⟨⟨ds,b2⟩,⟨hds,hb2⟩,sQ⟩:=kI s hd l a4 hl ha4
  dsimp only at hds hb2 sQ
  refine XE.mp (fun _ _=>C1.draw 0 l a4 _ sQ rfl rfl rfl) ?_
  refine sW ?_
  refine XE.fin (⟨nm,1,c,ds,v,[],cnd0⟩,b2) ⟨⟨qx4 hE hnm hcf hds (.inr hv),rfl,hcm⟩,hb2⟩ fun e ⟨_,hst⟩=>?_
  exact .oA [(0,some 0)] []
 ·obtain ⟨⟨ts,a5⟩,⟨⟨ht1,ht2⟩,ha5⟩,sT⟩:=qm3 s hd v l a4 hl ha4
  dsimp only at ht1 ht2 ha5 sT
  refine XE.mp (fun _ _=>C1.draw 0 l a4 _ sT rfl rfl rfl) ?_
  simp only [tZ,↓un_u,simprocAttr,decide_eq_true_eq,decide_eq_false_iff_not]
  refine XE.brN (fun h3=>?_) (fun h3=>?_)
  ·refine XE.fin (⟨nm,2,c,[],v,ts,cnd0⟩,a5) ⟨⟨jf5 hE hnm hcf (ht2 (by omega)) hv,rfl,hcm⟩,ha5⟩ fun e ⟨_,hst⟩=>?_
   exact .oA [(0,some 0)] []
  ·obtain ⟨⟨ds,b2⟩,⟨hds,hb2⟩,sQ⟩:=kI s hd l a5 hl ha5
   dsimp only at hds hb2 sQ
   refine XE.mp (fun _ _=>C1.draw 0 l a5 _ sQ rfl rfl rfl) ?_
   refine sW ?_
   refine XE.fin (⟨nm,1,c,ds,-1,[],cnd0⟩,b2) ⟨⟨qx4 hE hnm hcf hds (.inl rfl),rfl,hcm⟩,hb2⟩ fun e ⟨_,hst⟩=>?_
   exact .oA [(0,some 0)] []
 ·simp only [tZ,↓un_u,simprocAttr,Int.toNat_natCast,qe hil,decide_eq_true_eq,decide_eq_false_iff_not]
  refine XE.sd (by omega) ?_
  refine XE.brN (fun h4=>?_) (fun h4=>?_)
  ·obtain ⟨⟨d,a5⟩,⟨hdc,ha5⟩,sE⟩:=Kk s hd l hl 1 a4 ha4 (by omega)
   dsimp only at hdc ha5 sE
   refine XE.mp (fun _ _=>C1.draw 0 l a4 _ sE rfl rfl rfl) ?_
   refine sW ?_
   refine XE.fin (⟨nm,3,c,[],v,[],d⟩,a5) ⟨⟨jf6 hE hnm hcf (hdc.chk hE (by omega)) hv (by rw [Int.toNat_natCast,hat v hil];omega),rfl,hcm⟩,ha5⟩ fun e ⟨_,hst⟩=>?_
   exact .oA [(0,some 0)] []
  ·obtain ⟨⟨ds,b2⟩,⟨hds,hb2⟩,sQ⟩:=kI s hd l a4 hl ha4
   dsimp only at hds hb2 sQ
   refine XE.mp (fun _ _=>C1.draw 0 l a4 _ sQ rfl rfl rfl) ?_
   refine sW ?_
   refine XE.fin (⟨nm,1,c,ds,-1,[],cnd0⟩,b2) ⟨⟨qx4 hE hnm hcf hds (.inl rfl),rfl,hcm⟩,hb2⟩ fun e ⟨_,hst⟩=>?_
   exact .oA [(0,some 0)] []
 ·obtain ⟨⟨ds,b2⟩,⟨hds,hb2⟩,sQ⟩:=kI s hd l a4 hl ha4
  dsimp only at hds hb2 sQ
  refine XE.mp (fun _ _=>C1.draw 0 l a4 _ sQ rfl rfl rfl) ?_
  refine sW ?_
  refine XE.fin (⟨nm,1,c,ds,-1,[],cnd0⟩,b2) ⟨⟨qx4 hE hnm hcf hds (.inl rfl),rfl,hcm⟩,hb2⟩ fun e ⟨_,hst⟩=>?_
  exact .oA [(0,some 0)] []
theorem Yw (s:Sch) (hd:DrS s) (nm:ByteArray) (hnm:ky nm = true) (l:List UInt8) (a:Nat) (hl:l.length≤400) (ha:a≤l.length) :
 ∃ r:Qst×Nat,((qstE s r.1 = 0∧r.1.name = nm)∧r.2≤l.length)∧Spc Tryz.prog zz [.ptr 0 1 0 0,schT s,vS nm] [(0,oC l a)] (qstT r.1) [(0,oC l r.2)]:=by
 obtain ⟨r,⟨⟨h1,h2,_⟩,h3⟩,h⟩:=WD s hd nm hnm l a hl ha
 exact ⟨r,⟨⟨h1,h2⟩,h3⟩,h⟩
end Go.Proofs
namespace Go.Proofs
open Go Go.TL
set_option maxRecDepth 4000
set_option maxHeartbeats 8000000
theorem zB3 (f:Nat→Int):∀ n,((canF f n).Pairwise fun a b=>a.col < b.col)∧∀ p∈canF f n,p.col < n
 | 0=>⟨List.Pairwise.nil,by simp [canF]⟩
 | n + 1=>by
   obtain ⟨h1,h2⟩:=zB3 f n
   rw [canF]
   split
   ·refine ⟨List.pairwise_append.2 ⟨h1,by simp,fun p hp q hq=>?_⟩,fun p hp=>?_⟩
    ·rw [List.mem_singleton.1 hq];exact h2 p hp
    ·rcases List.mem_append.1 hp with hp | hp
     ·have:=h2 p hp;omega
     ·rw [List.mem_singleton.1 hp];dsimp only;omega
   ·rw [List.append_nil]
    exact ⟨h1,fun p hp=>by have:=h2 p hp;omega⟩
theorem jr4 {s:Sch} (hE:schE s = 0) {c:Nat} (h1:1≤c) (h2:c < s.cols.length) {v:Int} (h3:0≤v) (h4:v≤finI s c):wJ s ⟨c,v⟩ = 0:=by
 rw [wJ,if_neg (by rw [hE];simp),if_neg (by dsimp only;omega),if_neg]
 rw [Bool.not_eq_false,jA]
 exact ⟨h3,h4⟩
theorem zF4 {s:Sch} (hE:schE s = 0) {f:Nat→Int} (h:∀ k,k < s.cols.length→0 < f k→1≤k∧f k≤finI s k):Qq s (canF f s.cols.length) = 0:=by
 refine zX0 hE (fun p hp=>?_) (zB3 f _).1
 obtain ⟨k,k1,k2,rfl⟩:=We.1 hp
 obtain ⟨h1,h2⟩:=h k k1 k2
 exact jr4 hE h1 k1 (by omega) h2
theorem zB4 {l:List Pk} {k F:Int} (hF:0≤F) (h:∀ p∈l,p.col = k→p.lev≤F):mxl l k≤F:=by
 induction l with
 | nil=>exact hF
 | cons p r ih=>
   have h1:=ih fun q hq=>h q (List.mem_cons_of_mem _ hq)
   rw [mxl]
   split
   ·rename_i e
    have:=h p (by simp) e
    omega
   ·exact h1
theorem zk0 {s:Sch} {c lev:Int} (h:0≤lev) (h2:lev≤finI s c):yv s c lev≤lev∧0≤yv s c lev∧divB s c.toNat (yv s c lev).toNat lev.toNat = true∧∀ m:Nat,(m:Int) < yv s c lev→divB s c.toNat m lev.toNat = false:=by
 have h59:lev≤59∨schE s≠0:=by
  by_cases e:schE s = 0
  ·have:=qe4 (c:=c) e;exact .inl (by omega)
  ·exact .inr e
 have hE:schE s = 0:=(kV (s:=s) (c:=c) (by omega)).1
 have h59:=qe4 (c:=c) hE
 rw [yv,if_neg (by rw [Bool.not_eq_false,jA];omega)]
 obtain ⟨a,b,_,d⟩:=qe1 (p:=fun n=>divB s c.toNat n lev.toNat) (N:=lev.toNat) (zz7 s _ _) 64 0 (by omega) (by omega)
 refine ⟨by omega,by omega,by rw [Int.toNat_natCast];exact a,fun m hm=>d m (by omega) (by omega)⟩
theorem qG1 {s:Sch} (hE:schE s = 0) {k:Nat} (h1:1≤k) (h2:k < s.cols.length):0≤finI s k:=by
 have hok:=qJ hE
 have hkk:=qU (hok.cs k h2)
 have h3:=hkk.2.2.1 h1
 refine (zV8 hE (v:=k) ?_).2.2.1
 rcases (show (qg s k).kind = 2∨(qg s k).kind = 3 by omega) with h | h
 ·exact .inl (zt.2 ⟨by omega,by omega,by rw [Int.toNat_natCast];exact h⟩)
 ·exact .inr (zt.2 ⟨by omega,by omega,by rw [Int.toNat_natCast];exact h⟩)
theorem jr5 {s:Sch} {c:Cnd} (h:chkC s c = 0):∀ p∈atP s c,p.lev≤finI s p.col:=fun p hp=>by
 obtain ⟨hE,k2,k3,k4⟩:=KZ h
 obtain ⟨a,ha,rfl⟩:=List.mem_map.1 hp
 obtain ⟨hnd,hia⟩:=qQ4 c k4 a ha
 exact (Ki hE hnd hia).1
theorem zX1 {s:Sch} {c:Cnd} (h:chkC s c = 0):∀ p∈zO s c,p.lev≤finI s p.col:=fun p hp=>by
 have hE:=(KZ h).1
 obtain ⟨h1,h2⟩:=Kp h
 rw [h1,We] at hp
 obtain ⟨k,k1,k2,rfl⟩:=hp
 have h0:1≤k:=by
  rcases Nat.eq_zero_or_pos k with e | e
  ·subst e
   rw [Jh fun q hq=>by have:=h2 q hq;omega] at k2
   omega
  ·exact e
 exact zB4 (qG1 hE h0 k1) fun p hp e=>by rw [← e];exact jr5 h p hp
theorem zX2 {s:Sch} {q:Qst} (hq:QstOk s q):∀ p∈qr7 s q,p.lev≤finI s p.col:=fun p hp=>by
 unfold qr7 at hp
 rcases List.mem_append.1 hp with hp | hp
 ·rcases List.mem_append.1 hp with hp | hp
  ·obtain ⟨d,hd,rfl⟩:=List.mem_map.1 hp
   obtain ⟨_,h1,h2,h3,h4⟩:=qk8 (zj9 hq d hd).1
   have:=zk0 h3 h4
   dsimp only;omega
  ·obtain ⟨k,h1,h2,rfl⟩:=zW9.1 hp
   unfold usB at h2
   rw [Bool.and_eq_true,decide_eq_true_eq] at h2
   have h3:=qG1 hq.sch (k:=k) (by omega) h1
   have:=zk0 h3 (Int.le_refl _)
   dsimp only;omega
 ·obtain ⟨c,hc,hp⟩:=List.mem_flatMap.1 hp
  exact zX1 (qR3 hq c hc) p hp
theorem jr6 {s:Sch} {q:Qst} (hq:QstOk s q) (k:Nat) (hk:k < s.cols.length) (h:0 < mxl (qr7 s q) k):1≤k∧mxl (qr7 s q) k≤finI s k:=by
 have h0:1≤k:=by
  rcases Nat.eq_zero_or_pos k with e | e
  ·subst e
   rw [Jh fun q' hq'=>by have:=qY3 hq q' hq';omega] at h
   omega
  ·exact e
 exact ⟨h0,zB4 (qG1 hq.sch h0 hk) fun p hp e=>by rw [← e];exact zX2 hq p hp⟩
theorem zp6 {s:Sch} {q:Qst} (h:qstE s q = 0):Qq s (qe3 s q) = 0:=by
 have hq:=qq6 h
 rw [qr8 h]
 exact zF4 hq.sch (jr6 hq)
theorem zX3 {f g:Nat→Int} {n:Nat} (h:∀ k,k < n→f k≤g k):covB (canF f n) (canF g n) = true:=by
 unfold covB
 rw [List.all_eq_true]
 intro p hp
 obtain ⟨k,k1,k2,rfl⟩:=We.1 hp
 have:=h k k1
 exact List.any_eq_true.2 ⟨⟨k,g k⟩,We.2 ⟨k,k1,by omega,rfl⟩,by rw [Bool.and_eq_true,beq_iff_eq,decide_eq_true_eq];exact ⟨rfl,this⟩⟩
end Go.Proofs
namespace Go.Proofs
open Go Go.TL
set_option maxRecDepth 4000
set_option maxHeartbeats 8000000
theorem jf7 {a w:Int}:(a.tmod w == 0) = true↔w ∣ a:=by rw [beq_iff_eq];exact ⟨Int.dvd_of_tmod_eq_zero,Int.tmod_eq_zero_of_dvd⟩
theorem qY4 {a w:Int} (hw:0 < w):qA a w = a / w:=by unfold qA;rw [Int.fdiv_eq_ediv_of_nonneg _ (by omega)]
theorem jm3 {w x a:Int} (hw:0 < w) (hd:w ∣ x):x≤a↔x≤qA a w * w:=by
 obtain ⟨t,rfl⟩:=hd
 have h:=ZN (v:=a) hw
 rw [qY4 hw] at h ⊢
 generalize a / w = u at h ⊢
 constructor
 ·intro h1
  have h2:w * t < w * (u + 1):=by rw [Int.mul_add,Int.mul_one,Int.mul_comm w u];omega
  have h3:=Int.lt_of_mul_lt_mul_left h2 (by omega)
  rw [Int.mul_comm u w]
  exact Int.mul_le_mul_of_nonneg_left (by omega) (by omega)
 ·intro h1;omega
theorem zX4 {w x a b:Int} (hw:0 < w) (hd:w ∣ x) (h:qA a w * w = qA b w * w):x≤a↔x≤b:=(jm3 hw hd).trans (by rw [h];exact (jm3 hw hd).symm)
theorem jr7 {w x:Int} (hw:0 < w) (hd:w ∣ x):qA x w * w = x:=by
 rw [qY4 hw]
 exact Int.ediv_mul_cancel hd
theorem ZU {s:Sch} {i:Nat} (h1:(qg s i).kind = 3) {v:Int}:zd s i v = true↔((qg s i).opt = true∧v = qY)∨((qg s i).low≤v∧v≤(qg s i).high):=by
 rw [zd,if_neg (by omega),if_neg (by omega),Bool.or_eq_true,Bool.and_eq_true,beq_iff_eq,jA]
theorem Yx {s:Sch} (hok:SchOk s) {i:Nat} (hi:i < s.cols.length) (h2:(qg s i).kind = 2) {v:Int}:zd s i v = true↔v∈qD s i:=by
 obtain ⟨_,d2⟩:=hok.cdl hi h2
 constructor
 ·intro h
  rw [zd,if_neg (by omega),if_pos h2,Bool.and_eq_true,jA,beq_iff_eq] at h
  obtain ⟨⟨g1,g2⟩,g3⟩:=h
  obtain ⟨c,rfl⟩:=Int.eq_ofNat_of_zero_le g1
  rw [lvlC,if_neg (not_or.2 ⟨fun h=>h d2,by omega⟩),Int.toNat_natCast] at g3
  exact (yY hok hi h2).2 ⟨c,rfl,by omega,g3⟩
 ·intro h;exact yV h2 d2 h
structure MeasC (s:Sch) (i:Nat):Prop where
 kind:(qg s i).kind = 3
 fin:finI s i = (qg s i).widths.length
 wid:∀ l:Nat,1≤l→l≤(qg s i).widths.length→1≤qE (qg s i) l
 one:qE (qg s i) (qg s i).widths.length = 1
 lh : -1000000≤(qg s i).low∧(qg s i).low≤(qg s i).high∧(qg s i).high≤1000000
 nw:1≤(qg s i).widths.length
 dv:∀ {o l:Nat},1≤o→o < l→l≤(qg s i).widths.length→∃ k:Int,2≤k∧qE (qg s i) o = k * qE (qg s i) l
theorem qm4 {s:Sch} (hE:schE s = 0) {i:Nat} (hi:i < s.cols.length) (h0:0 < i) (h2:(qg s i).kind≠2):MeasC s i:=by
 have hok:=qJ hE
 have hkk:=qU (hok.cs i hi)
 have h3:(qg s i).kind = 3:=by have:=hkk.2.2.1 h0;omega
 have hm:=hkk.2.2.2.2 h3
 have hwl:1≤(qg s i).widths.length:=by unfold measE at hm;grind
 obtain ⟨_,_,_,_,w5,w6,w7,w8⟩:=hok.wid hi h0 h2 (lev:=(qg s i).widths.length) (by omega)
 refine ⟨h3,by rw [finI,if_neg (by rw [hE];omega),Int.toNat_natCast,if_neg h2],fun l l1 l2=>(hok.wid hi h0 h2 (lev:=l) (by omega)).1,w8,⟨w5,w7,w6⟩,hwl,fun {o l} h4 h5 h6=>hok.wdv hi h0 h2 ⟨h4,h5⟩ h6⟩
theorem qG2 {s:Sch} {i:Nat} (h:MeasC s i) {lev:Nat} (hl:(lev:Int)≤finI s i) {v:Int} (hv:zd s i v = true):qr s i lev v = if lev = 0 then 0 else if v = qY then v else qA v (qE (qg s i) lev) * qE (qg s i) lev:=by
 have h1:=h.lh
 have hm:v≠qY→inB v (-1000000) 1000000 = true:=fun hn=>by
  rcases (ZU h.kind).1 hv with k | k
  ·exact absurd k.2 hn
  ·exact jA.2 (by omega)
 rw [qr,if_neg (by rw [Bool.not_eq_false,jA];omega),Int.toNat_natCast,if_neg (by rw [h.kind];decide),if_neg (fun k=>by rw [hm k.1] at k;simp at k)]
 by_cases e:lev = 0
 ·subst e;rfl
 ·rw [if_neg (by omega),if_neg e]
theorem jr8 {v w:Int} (hw:1≤w) (hw2:w≤1000000) (hv : -1000000≤v):qA v w * w≠qY:=by
 have:=ZN (v:=v) (w:=w) (by omega)
 unfold qY
 omega
theorem jm4 {s:Sch} (hE:schE s = 0) {i:Nat} (hi:i < s.cols.length) (h0:0 < i) (h2:(qg s i).kind≠2) {l:Nat} (l1:1≤l) (l2:l≤(qg s i).widths.length):qE (qg s i) l≤1000000:=((qJ hE).wid hi h0 h2 (lev:=l) (by omega)).2.1
theorem zp7 {s:Sch} (hE:schE s = 0) {i:Nat} (hi:i < s.cols.length) (h0:0 < i) (h2:(qg s i).kind≠2) {lev:Nat} (h1:1≤lev) (hl:(lev:Int)≤finI s i) {a b:Int} (ha:zd s i a = true) (hb:zd s i b = true) :
 qr s i lev a = qr s i lev b↔(a = qY∧b = qY)∨(a≠qY∧b≠qY∧qA a (qE (qg s i) lev) * qE (qg s i) lev = qA b (qE (qg s i) lev) * qE (qg s i) lev):=by
 have hm:=qm4 hE hi h0 h2
 have hlh:=hm.lh
 have hf:=hm.fin
 have hw:=hm.wid lev h1 (by omega)
 have hw2:=jm4 hE hi h0 h2 h1 (by omega)
 rw [qG2 hm hl ha,qG2 hm hl hb,if_neg (show ¬ lev = 0 by omega),if_neg (show ¬ lev = 0 by omega)]
 have na:a≠qY→-1000000≤a:=fun hn=>by
  rcases (ZU hm.kind).1 ha with k | k
  ·exact absurd k.2 hn
  ·omega
 have nb:b≠qY→-1000000≤b:=fun hn=>by
  rcases (ZU hm.kind).1 hb with k | k
  ·exact absurd k.2 hn
  ·omega
 by_cases ea:a = qY
 ·by_cases eb:b = qY
  ·rw [if_pos ea,if_pos eb];simp [ea,eb]
  ·rw [if_pos ea,if_neg eb]
   have:=jr8 hw hw2 (nb eb)
   constructor
   ·intro h;rw [ea] at h;exact absurd h.symm this
   ·rintro (h | h)
    ·exact absurd h.2 eb
    ·exact absurd ea h.1
 ·by_cases eb:b = qY
  ·rw [if_neg ea,if_pos eb]
   have:=jr8 hw hw2 (na ea)
   constructor
   ·intro h;rw [eb] at h;exact absurd h this
   ·rintro (h | h)
    ·exact absurd h.1 ea
    ·exact absurd eb h.2.1
  ·rw [if_neg ea,if_neg eb]
   constructor
   ·intro h;exact .inr ⟨ea,eb,h⟩
   ·rintro (h | h)
    ·exact absurd h.1 ea
    ·exact h.2.2
theorem qG3 {s:Sch} (hE:schE s = 0) {i:Nat} (hi:i < s.cols.length) (h0:0 < i) (h2:(qg s i).kind≠2) {a:Int} (ha:zd s i a = true):qr s i 0 a = 0:=by
 have hm:=qm4 hE hi h0 h2
 have:=qG2 hm (lev:=0) (by rw [hm.fin];omega) ha
 rw [if_pos rfl] at this
 exact this
theorem zp8 {s:Sch} (hE:schE s = 0) {i:Nat} (hi:i < s.cols.length) (h0:0 < i) (h2:(qg s i).kind = 2) {lev:Nat} (hl:(lev:Int)≤finI s i) {a:Int} (ha:zd s i a = true):∃ c:Nat,a = c∧c < (qG s i).codes.length∧(dep (qG s i).codes c:Int) = zk (qG s i) - 1∧qr s i lev a = upN (qG s i).codes lev c:=by
 have hok:=qJ hE
 obtain ⟨c,rfl,c1,c2⟩:=(yY hok hi h2).1 ((Yx hok hi h2).1 ha)
 have hf:finI s i = zk (qG s i) - 1:=by rw [finI,if_neg (by rw [hE];omega),Int.toNat_natCast,if_pos h2]
 exact ⟨c,rfl,c1,c2,kA hok hi h2 c1 c2 hl hf⟩
theorem jr9 {s:Sch} (hE:schE s = 0) {i:Nat} (hi:i < s.cols.length) (h0:0 < i) {o lev:Nat} (ho:o≤lev) (hl:(lev:Int)≤finI s i) {a b:Int} (ha:zd s i a = true) (hb:zd s i b = true) (h:qr s i lev a = qr s i lev b):qr s i o a = qr s i o b:=by
 by_cases h2:(qg s i).kind = 2
 ·have hok:=qJ hE
  obtain ⟨_,d2⟩:=hok.cdl hi h2
  obtain ⟨hp,_,_⟩:=zc d2
  have hf:finI s i = zk (qG s i) - 1:=by rw [finI,if_neg (by rw [hE];omega),Int.toNat_natCast,if_pos h2]
  obtain ⟨c,rfl,c1,c2,c3⟩:=zp8 hE hi h0 h2 hl ha
  obtain ⟨d,rfl,e1,e2,e3⟩:=zp8 hE hi h0 h2 hl hb
  rw [kA hok hi h2 c1 c2 (by omega) hf,kA hok hi h2 e1 e2 (by omega) hf]
  rw [c3,e3] at h
  rw [← qF5 hp ho c c1 (by omega),← qF5 hp ho d e1 (by omega),show upN (qG s i).codes lev c = upN (qG s i).codes lev d by omega]
 ·by_cases e0:o = 0
  ·subst e0
   have za:=qG3 hE hi h0 h2 ha
   have zb:=qG3 hE hi h0 h2 hb
   show qr s i 0 a = qr s i 0 b
   rw [za,zb]
  ·by_cases e1:o = lev
   ·rw [e1];exact h
   have hm:=qm4 hE hi h0 h2
   have hf:=hm.fin
   obtain ⟨k,k1,k2⟩:=hm.dv (o:=o) (l:=lev) (by omega) (by omega) (by omega)
   rw [zp7 hE hi h0 h2 (by omega) (by omega) ha hb]
   rcases (zp7 hE hi h0 h2 (by omega) hl ha hb).1 h with h | ⟨h3,h4,h5⟩
   ·exact .inl h
   ·refine .inr ⟨h3,h4,?_⟩
    have hw:=hm.wid lev (by omega) (by omega)
    have:=Int.eq_of_mul_eq_mul_right (by omega) h5
    rw [k2,je8 hw (by omega),je8 hw (by omega),this]
end Go.Proofs
namespace Go.Proofs
open Go Go.TL
set_option maxRecDepth 4000
set_option maxHeartbeats 8000000
theorem js0 {n:Nat} {p:Nat→Nat→Bool} (h:qk5 n p = true) {i k:Nat} (hi:i < n) (hk:k < n) (hne:i≠k):p (max i k) (min i k) = true:=by
 rcases Nat.lt_or_gt_of_ne hne with q | q
 ·rw [show max i k = k by omega,show min i k = i by omega]
  exact qF7.1 h k hk i q
 ·rw [show max i k = i by omega,show min i k = k by omega]
  exact qF7.1 h i hi k q
theorem jx4 {s:Sch} {c:Cnd} {v:Int} (o:c.op = 4):zH s c v = tf (v == qY):=by
 unfold zH
 rw [if_neg (show ¬ c.op = 2 by omega),if_neg (show ¬ c.op = 3 by omega),if_pos o]
theorem jx5 {s:Sch} {c:Cnd} {v:Int} (o:c.op = 3):zH s c v = if v = qY then 0 else tf (decide (c.lo≤v) && decide (v≤c.hi)):=by
 unfold zH
 rw [if_neg (show ¬ c.op = 2 by omega),if_pos o]
theorem js1 {s:Sch} (hE:schE s = 0) {c:Cnd} (hnd:NdOk s c) (hia:isAt c = true) {lev:Nat} (hl:(lev:Int)≤finI s c.col) (hd:decB s c lev = true) {a b:Int} (ha:zd s c.col.toNat a = true) (hb:zd s c.col.toNat b = true) (h:qr s c.col lev a = qr s c.col lev b):zH s c a = zH s c b:=by
 obtain ⟨_,c1,c2,hfin⟩:=kV (s:=s) (c:=c.col) (by omega)
 obtain ⟨i,hci⟩:=Int.eq_ofNat_of_zero_le (show 0≤c.col by omega)
 have hcn:c.col.toNat = i:=by omega
 have hil:i < s.cols.length:=by omega
 have hok:=qJ hE
 have hop:c.op = 2∨c.op = 3∨c.op = 4:=by
  unfold isAt at hia
  simp only [Bool.or_eq_true,beq_iff_eq] at hia
  omega
 rw [hcn] at ha hb
 by_cases o2:c.op = 2
 ·have hk2:(qg s i).kind = 2:=by have:=(zt.1 (hnd.under o2).1).2.2;rw [hcn] at this;exact this
  have ma:=(Yx hok hil hk2).1 ha
  have mb:=(Yx hok hil hk2).1 hb
  by_cases e:a = b
  ·rw [e]
  obtain ⟨j,hj,rfl⟩:=List.getElem_of_mem ma
  obtain ⟨k,hk,rfl⟩:=List.getElem_of_mem mb
  unfold decB at hd
  rw [if_pos o2,hcn] at hd
  have hp:=js0 hd hj hk (fun q=>e (by subst q;rfl))
  have key:∀ x y,x < (qD s i).length→y < (qD s i).length→decP s c lev x y = true→qr s c.col lev ((qD s i).getD x 0) = qr s c.col lev ((qD s i).getD y 0)→zH s c ((qD s i).getD x 0) = zH s c ((qD s i).getD y 0):=fun x y _ _ hp he=>by
   unfold decP at hp
   rw [hcn,he] at hp
   simpa using hp
  have gj:(qD s i).getD j 0 = (qD s i)[j]:=qh hj
  have gk:(qD s i).getD k 0 = (qD s i)[k]:=qh hk
  rw [← gj,← gk] at h ⊢
  rcases Nat.lt_or_ge j k with q | q
  ·rw [show max j k = k by omega,show min j k = j by omega] at hp
   exact (key k j hk hj hp h.symm).symm
  ·rw [show max j k = j by omega,show min j k = k by omega] at hp
   exact key j k hj hk hp h
 ·have h3:(qg s i).kind = 3:=by
   rcases hop with o | o | o
   ·exact absurd o o2
   ·have:=(zt.1 (hnd.between o).1).2.2;rw [hcn] at this;exact this
   ·have:=(zt.1 (hnd.miss o).1).2.2;rw [hcn] at this;exact this
  have h2:(qg s i).kind≠2:=by omega
  have hm:=qm4 hE hil (by omega) h2
  have hlh:=hm.lh
  rw [hci] at hl h
  have hsame:1≤lev→_:=fun h1=>(zp7 hE hil (by omega) h2 h1 hl ha hb).1 h
  have va:=(ZU h3).1 ha
  have vb:=(ZU h3).1 hb
  unfold decB at hd
  rw [if_neg o2,hcn] at hd
  by_cases o4:c.op = 4
  ·rw [if_pos o4,decide_eq_true_eq] at hd
   rw [jx4 o4,jx4 o4]
   rcases hsame (by omega) with k | k
   ·rw [k.1,k.2]
   ·rw [beq_eq_false_iff_ne.2 k.1,beq_eq_false_iff_ne.2 k.2.1]
  ·have o3:c.op = 3:=by omega
   rw [if_neg o4] at hd
   dsimp only at hd
   rw [jx5 o3,jx5 o3]
   by_cases e0:lev = 0
   ·subst e0
    rw [if_pos rfl] at hd
    simp only [Bool.and_eq_true,Bool.not_eq_true',Bool.and_eq_false_iff,decide_eq_false_iff_not] at hd
    have na:a≠qY:=fun e=>by
     rcases va with k | k
     ·rw [k.1] at hd;simp at hd
     ·unfold qY at e;omega
    have nb:b≠qY:=fun e=>by
     rcases vb with k | k
     ·rw [k.1] at hd;simp at hd
     ·unfold qY at e;omega
    rw [if_neg na,if_neg nb]
    have ra:(qg s i).low≤a∧a≤(qg s i).high:=va.resolve_left fun k=>na k.2
    have rb:(qg s i).low≤b∧b≤(qg s i).high:=vb.resolve_left fun k=>nb k.2
    congr 1
    have e1:(c.lo≤a)↔(c.lo≤b):=by omega
    have e2:(a≤c.hi)↔(b≤c.hi):=by omega
    rw [decide_eq_decide.2 e1,decide_eq_decide.2 e2]
   ·rw [if_neg e0] at hd
    rcases hsame (by omega) with k | ⟨na,nb,hbl⟩
    ·rw [k.1,k.2]
    ·rw [if_neg na,if_neg nb]
     have ra:(qg s i).low≤a∧a≤(qg s i).high:=va.resolve_left fun k=>na k.2
     have rb:(qg s i).low≤b∧b≤(qg s i).high:=vb.resolve_left fun k=>nb k.2
     have hf:=hm.fin
     have hw:=hm.wid lev (by omega) (by omega)
     simp only [Bool.and_eq_true,Bool.or_eq_true,Bool.not_eq_true',Bool.and_eq_false_iff,decide_eq_false_iff_not,jf7] at hd
     congr 1
     have e1:(c.lo≤a)↔(c.lo≤b):=by
      rcases hd.1 with k | k
      ·omega
      ·exact zX4 (by omega) k hbl
     have e2:(a≤c.hi)↔(b≤c.hi):=by
      rcases hd.2 with k | k
      ·omega
      ·have:=zX4 (by omega) k hbl
       omega
     rw [decide_eq_decide.2 e1,decide_eq_decide.2 e2]
theorem jf8 {v w q:Int} (hw:1≤w) (h1:q * w≤v) (h2:v < (q + 1) * w):qA v w = q:=by
 rw [qY4 (by omega)]
 have a1:v / w < q + 1:=Int.ediv_lt_of_lt_mul (by omega) h2
 have a2:q≤v / w:=Int.le_ediv_of_mul_le (by omega) h1
 omega
end Go.Proofs
namespace Go.Proofs
open Go Go.TL
set_option maxRecDepth 4000
set_option maxHeartbeats 8000000
theorem zB5:∀ {l:List Pk} {p:Pk},p∈l→p.lev≤mxl l p.col
 | q :: r,p,h=>by
   rw [mxl]
   rcases List.mem_cons.1 h with e | h
   ·subst e;rw [if_pos rfl];omega
   ·have:=zB5 h
    split <;> omega
theorem zp9:∀ {l:List Pk} {k:Int},0 < mxl l k→∃ p∈l,p.col = k∧p.lev = mxl l k
 | [],k,h=>by rw [mxl] at h;omega
 | p :: r,k,h=>by
   rw [mxl] at h ⊢
   by_cases e:p.col = k
   ·rw [if_pos e] at h ⊢
    by_cases h2:mxl r k≤p.lev
    ·exact ⟨p,by simp,e,by omega⟩
    ·obtain ⟨x,h3,h4,h5⟩:=zp9 (l:=r) (k:=k) (by omega)
     exact ⟨x,List.mem_cons_of_mem _ h3,h4,by omega⟩
   ·rw [if_neg e] at h ⊢
    obtain ⟨x,h3,h4,h5⟩:=zp9 (l:=r) (k:=k) h
    exact ⟨x,List.mem_cons_of_mem _ h3,h4,h5⟩
end Go.Proofs
