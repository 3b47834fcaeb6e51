/- A part of the proof: trees of Go values, short forms, contracts. -/
import Derived.WalkKit
import Derived.Still
import Derived.MapKept
import GoSem.Builtin.Cap
import Derived.Laws.Externs
import GoSem.Extern.SlicesOverlaps
import Derived.Carry
import Derived.ProofKit
import Derived.OpenShut
import Derived.HandedShaped
import Derived.Lay
import Derived.LaidLaws
import Derived.MakeChecks
import Derived.SevenTiedAt
import Derived.Test.YtiddpnhnaooohaaGreatDoorChecked
import Derived.Test.YtiddpnhnaooohaaGreatDoorK21
set_option linter.unusedSimpArgs false
set_option linter.unusedVariables false
namespace Go.Proofs
open Go Go.TL
set_option maxRecDepth 4000
set_option maxHeartbeats 8000000
def mxc:List Pk→Int
 | []=>0
 | p :: r=>max p.col (mxc r)
theorem zR9:∀ l:List Pk,0≤mxc l
 | []=>Int.le_refl _
 | p :: r=>by have:=zR9 r;rw [mxc];omega
theorem zw1:∀ (l:List Pk) (p:Pk),mxc (l ++ [p]) = max (mxc l) p.col
 | [],p=>by show max p.col 0 = max 0 p.col;omega
 | q :: r,p=>by rw [List.cons_append,mxc,mxc,zw1 r p];omega
theorem jg8 {n:Int} (hn:0≤n):∀ {l:List Pk},(∀ p∈l,p.col≤n)→mxc l≤n
 | [],_=>hn
 | p :: r,h=>by
   have h1:=h p (by simp)
   have h2:=jg8 hn (l:=r) fun q hq=>h q (List.mem_cons_of_mem _ hq)
   rw [mxc];omega
theorem jg9:∀ {l:List Pk} {p:Pk},p∈l→p.col≤mxc l
 | q :: r,p,h=>by
   rw [mxc]
   rcases List.mem_cons.1 h with e | h
   ·rw [e];omega
   ·have:=jg9 h;omega
theorem qp8 (ls:List (List Pk)) (n:Nat) (h1:1≤n) (h2:n≤1000) (hls:ls.length≤1000) (hl:∀ l∈ls,l.length≤1000) (hb:∀ l∈ls,∀ p∈l,0≤p.col∧p.col < n) :
 Spc Tryz.prog yz [.sl 1 (ls.map vPs)] [] (vPs (canF (fun k=>mxl ls.flatten k) n)) []:=by
 refine qd qh5 mixm (by simp) fun e _ hst=>qg ?_
 unfold yh
 refine sW ?_
 refine qw mixm (α:=Nat×List (Int×Int)) [4,14] (fun y=>y.1≤ls.length∧∀ k,(TL.look TL.eqI k y.2).getD 0 = mxl (ls.take y.1).flatten k) (fun y=>[(4,vI (mxc (ls.take y.1).flatten)),(14,vI y.1)]) (fun y=>[(8192,.mp (.ii y.2))]) (fun y=>ls.length - y.1) (0,[]) ⟨by simp,fun k=>rfl⟩ ?_ fun y hy=>?_
 ·exact .oA [(8192,some 8192)] []
 obtain ⟨i,M⟩:=y
 obtain ⟨y1,y2⟩:=hy
 dsimp only at y1 y2
 refine sD ?_
 refine ⟨fun h=>?_,fun h=>?_⟩
 ·have hi:i < ls.length:=by omega
  have hwi:=qj (i:=i) (by omega)
  have hll:=hl _ (List.getElem_mem hi)
  have hbb:=hb _ (List.getElem_mem hi)
  have hfl:(ls.take (i + 1)).flatten = (ls.take i).flatten ++ ls[i]:=by rw [qR hi,List.flatten_append];simp
  generalize (ls.take i).flatten = A at y2 hfl ⊢
  simp only [tZ,↓un_u,simprocAttr,Int.toNat_natCast,qe hi]
  refine ⟨by omega,?_⟩
  generalize ls[i] = l at hll hbb hfl ⊢
  refine qw mixm (α:=Nat×List (Int×Int)) [4,20] (fun y=>y.1≤l.length∧∀ k,(TL.look TL.eqI k y.2).getD 0 = mxl (A ++ l.take y.1) k) (fun y=>[(4,vI (mxc (A ++ l.take y.1))),(20,vI y.1)]) (fun y=>[(8192,.mp (.ii y.2))]) (fun y=>l.length - y.1) (0,M) ⟨by simp,fun k=>by rw [List.take_zero,List.append_nil];exact y2 k⟩ ?_ fun y hy=>?_
  ·refine .of [(8192,some 8192)] [] rfl (by first | rfl | (rw [hst];rfl)) ?_ ?_
   all_goals (try simp only [tL,simprocAttr,List.map_append,List.map_cons,List.map_nil,List.cons_append,List.nil_append,List.take_zero,List.append_nil])
   all_goals (try (repeat' (first | exact qT | (apply zj;intro _;exact ⟨rfl,rfl⟩) | (apply qz;intro _;exact ⟨rfl,rfl⟩) | with_reducible apply qJ | with_reducible refine qM ⟨rfl,rfl⟩ ?_ | exact qW | with_reducible apply qE | with_reducible refine qK ⟨rfl,rfl,?_⟩ ?_ | with_reducible apply And.intro | exact qG rfl | exact qG (by assumption) | (refine ⟨⟨?_,rfl,?_,rfl,?_⟩,trivial⟩ <;> first | (simp;done) | (apply qz;intro _;exact ⟨rfl,rfl⟩)) | trivial | rfl | (rw [qj (by omega)]) | omega)))
  obtain ⟨j,N⟩:=y
  obtain ⟨z1,z2⟩:=hy
  dsimp only at z1 z2
  refine sD ?_
  refine ⟨fun h5=>?_,fun h5=>?_⟩
  ·have hj:j < l.length:=by omega
   have hwj:=qj (i:=j) (by omega)
   have hts:A ++ l.take (j + 1) = A ++ l.take j ++ [l[j]]:=by rw [qR hj,List.append_assoc]
   have hnew:∀ k,(TL.look TL.eqI k (TL.asg TL.eqI l[j].col (max (mxl (A ++ l.take j) l[j].col) l[j].lev) N)).getD 0 = mxl (A ++ l.take (j + 1)) k:=fun k=>by
    rw [qk1,hts,ja0]
    by_cases e:k = l[j].col
    ·subst e
     rw [if_pos rfl,if_pos rfl];rfl
    ·rw [if_neg e,if_neg (fun h=>e h.symm)]
     exact z2 k
   have hx:=zw1 (A ++ l.take j) l[j]
   rw [← hts] at hx
   have hz:=z2 l[j].col
   simp only [tZ,↓un_u,simprocAttr,Int.toNat_natCast,qe hj,hwj,ze9,hz,← hx]
   refine ⟨by omega,by kernel_rfl,?_⟩
   refine ⟨(j + 1,_),⟨by dsimp only;omega,hnew⟩,by dsimp only;omega,?_⟩
   exact .oA [(8192,some 8192)] []
  ·have hjl:j = l.length:=by omega
   subst hjl
   rw [List.take_length,← hfl] at z2 ⊢
   simp only [tZ,↓un_u,simprocAttr,hwi]
   refine ⟨(i + 1,N),⟨by dsimp only;omega,z2⟩,by dsimp only;omega,?_⟩
   exact .oA [(8192,some 8192)] []
 ·have hil:i = ls.length:=by omega
  subst hil
  rw [List.take_length] at y2 ⊢
  have hbf:∀ p∈ls.flatten,0≤p.col∧p.col < n:=fun p hp=>by
   obtain ⟨l,hl,hpl⟩:=List.mem_flatten.1 hp
   exact hb l hl p hpl
  have hml:=jg8 (n:=n - 1) (by omega) (l:=ls.flatten) fun p hp=>by have:=hbf p hp;omega
  have hmp:=zR9 ls.flatten
  have hmore:canF (fun k=>mxl ls.flatten k) n = canF (fun k=>mxl ls.flatten k) ((mxc ls.flatten).toNat + 1):=by
   rw [show n = (mxc ls.flatten).toNat + 1 + (n - ((mxc ls.flatten).toNat + 1)) by omega,zg0]
   intro k hk _
   rw [qk4 fun p hp=>by have:=jg9 hp;omega]
   exact Int.le_refl _
  rw [hmore]
  obtain ⟨c,hc⟩:=Int.eq_ofNat_of_zero_le hmp
  rw [hc,Int.toNat_natCast]
  have hwc:=qj (i:=c) (by omega)
  rw [hwc]
  generalize ls.flatten = A at y2 ⊢
  refine qw mixm (α:=Nat) [9,42] (fun k=>k≤c + 1) (fun k=>[(9,.asl 1 (canF (fun k=>mxl A k) k).length),(42,vI k)]) (fun k=>[(8192,.mp (.ii M)),(1,.arr 2 ((canF (fun k=>mxl A k) k).map pkT) false)]) (fun k=>c + 1 - k) 0 (by omega) ?_ fun k hk=>?_
  ·exact .oA [(8192,some 8192),(1,none)] []
  have hcl:=qU3 (fun k=>mxl A k) k
  have hcs:canF (fun k=>mxl A k) (k + 1) = canF (fun k=>mxl A k) k ++ (if 0 < mxl A k then [⟨(k:Nat),mxl A k⟩] else []):=by rw [canF]
  have hz:=y2 k
  refine sD ?_
  refine ⟨fun h5=>?_,fun h5=>?_⟩
  ·have hwk:=qj (i:=k) (by omega)
   simp only [tZ,↓un_u,simprocAttr,hz,hwk,gt_iff_lt,tD]
   refine ⟨fun h6=>?_,fun h6=>?_⟩
   ·rw [if_pos h6] at hcs
    refine ⟨by omega,k + 1,by omega,by omega,?_⟩
    rw [hcs,List.map_append,List.length_append]
    exact .oA [(8192,some 8192),(1,some 1)] []
   ·rw [if_neg h6,List.append_nil] at hcs
    refine ⟨k + 1,by omega,by omega,?_⟩
    rw [hcs]
    exact .oA [(8192,some 8192),(1,some 1)] []
  ·rw [show k = c + 1 by omega]
   exact .oA [] [1]
theorem zS0 {s:Sch} {q:Qst} (hq:QstOk s q):∀ d∈q.dims,QR s d = 0∧isB s d.col 2 = true:=fun d hd=>by
 by_cases h1:q.kind = 1
 ·have h2:=(hq.dims h1).1
  unfold QS at h2
  split at h2
  ·cases h2
  obtain ⟨i,hi,rfl⟩:=List.getElem_of_mem hd
  have h3:=qN5 h2 i hi
  have hp:pkAt q.dims i = q.dims[i]:=by rw [pkAt,qk hi]
  unfold dimE at h3
  rw [hp] at h3
  split at h3
  ·rename_i h4;exact absurd h3 h4
  rename_i h4
  split at h3
  ·cases h3
  rename_i h5
  exact ⟨Classical.byContradiction h4,by simpa using h5⟩
 ·rw [hq.d0 h1] at hd
  simp at hd
theorem jh0 {s:Sch} {q:Qst} (hq:QstOk s q):∀ c∈cnsL q,chkC s c = 0:=fun c hc=>by
 unfold cnsL at hc
 split at hc
 ·rename_i h
  rcases List.mem_cons.1 hc with e | hc
  ·rw [e];exact hq.filt
  ·rw [List.mem_singleton.1 hc];exact (hq.event h).2.2
 ·rw [List.mem_singleton.1 hc];exact hq.filt
theorem jl4 {s:Sch} {q:Qst} {n:Nat} {p:Pk}:p∈usP s q n↔∃ k:Nat,k < n∧usB q k = true∧p = ⟨k,ZR s k (finI s k)⟩:=by
 unfold usP
 simp only [List.mem_map,List.mem_filter,List.mem_range]
 constructor
 ·rintro ⟨k,⟨h1,h2⟩,rfl⟩;exact ⟨k,h1,h2,rfl⟩
 ·rintro ⟨k,h1,h2,rfl⟩;exact ⟨k,⟨h1,h2⟩,rfl⟩
theorem jl5 (s:Sch) (q:Qst) (n:Nat):(usP s q n).length≤n:=by
 unfold usP
 rw [List.length_map]
 have:=List.length_filter_le (fun k:Nat=>usB q k) (List.range n)
 rw [List.length_range] at this
 exact this
def zm0 (s:Sch) (q:Qst):List Pk:=dmP s q ++ usP s q s.cols.length ++ (cnsL q).flatMap (jH s)
theorem zw2 {s:Sch} {q:Qst} (hq:QstOk s q):∀ p∈zm0 s q,1≤p.col∧p.col < s.cols.length:=fun p hp=>by
 unfold zm0 at hp
 rcases List.mem_append.1 hp with hp | hp
 ·rcases List.mem_append.1 hp with hp | hp
  ·obtain ⟨d,hd,rfl⟩:=List.mem_map.1 hp
   obtain ⟨_,h1,h2,_⟩:=zZ2 (zS0 hq d hd).1
   exact ⟨h1,h2⟩
  ·obtain ⟨k,h1,h2,rfl⟩:=jl4.1 hp
   unfold usB at h2
   rw [Bool.and_eq_true,decide_eq_true_eq] at h2
   exact ⟨by dsimp only;omega,by dsimp only;omega⟩
 ·obtain ⟨c,hc,hp⟩:=List.mem_flatMap.1 hp
  exact ja1 (jh0 hq c hc) p hp
theorem zA8 {s:Sch} {q:Qst} (h:qstE s q = 0):qC3 s q = canF (fun k=>mxl (zm0 s q) k) s.cols.length:=by
 have hq:=qC9 h
 have hb:=zw2 hq
 obtain ⟨n1,n2⟩:=qp7 hq.filt
 rw [zl9 h,n1,qp6 _ (fun k=>qd5 _ _) fun p hp=>?_]
 ·refine JX fun k _=>?_
  rw [← zR5 hq.filt k]
  have e:(cnsL q).flatMap (jH s) = jH s q.filt ++ evP s q:=by
   unfold cnsL evP
   split <;> simp
  rw [zm0,e]
  simp only [qU6]
  omega
 ·have:p∈zm0 s q:=by
   unfold zm0
   have e:(cnsL q).flatMap (jH s) = jH s q.filt ++ evP s q:=by
    unfold cnsL evP
    split <;> simp
   rw [e]
   simp only [List.mem_append] at hp ⊢
   rcases hp with (h | h) | h
   ·exact .inr (.inr h)
   ·exact .inl (.inl h)
   ·exact .inl (.inr h)
  have:=hb p this
  omega
theorem Ka (s:Sch) (hs:QO s) (q:Qst):Spc Tryz.prog ku [schT s,qstT q] [] (vPs (qC3 s q)) []:=by
 refine qa2 [15] qg2 mixm (by simp) fun e _ hst=>qg ?_
 unfold yb
 simp only [Wz,List.contains_cons,List.contains_nil,Nat.reduceBEq,Bool.or_false,Bool.or_true,Bool.true_or,Bool.false_or,cond_true,cond_false]
 refine sW ?_
 refine C1.im (jT s hs q) (by rfl) (by rfl) ?_
 simp only [tZ,↓un_u,simprocAttr,bne_iff_ne,bne_eq_false_iff_eq]
 refine ⟨fun h=>?_,fun h=>?_⟩
 ·rw [qC3,if_pos h]
  exact .oA [] []
 have hq:=qC9 h
 have hok:=qZ hq.sch
 have hnc:=hok.nc
 have hnd:=hq.nd
 have hnt:=hq.nt
 have hck:=jh0 hq
 have hcl:(cnsL q).length≤2:=by unfold cnsL;split <;> simp
 have hdl:(dmP s q).length = q.dims.length:=List.length_map _
 have hbd:=zw2 hq
 refine qw mixm (α:=Nat) [5,19] (fun i=>i≤q.dims.length) (fun i=>[(5,.asl 1 ((dmP s q).take i).length),(19,vI i)]) (fun i=>[(4096,.arr 2 [schT s] false),(4100,.arr 17 [qstT q] false),(1,.arr 2 (((dmP s q).take i).map pkT) false)]) (fun i=>q.dims.length - i) 0 (by omega) ?_ fun i hi=>?_
 ·exact .oA [(4096,some 4096),(4100,some 4100),(1,none)] []
 refine sD ?_
 refine ⟨fun h3=>?_,fun h3=>?_⟩
 ·have hi2:i < q.dims.length:=by omega
  have hwi:=qj (i:=i) (by omega)
  have hts:(dmP s q).take (i + 1) = (dmP s q).take i ++ [⟨q.dims[i].col,ZR s q.dims[i].col q.dims[i].lev⟩]:=by
   rw [qR (by omega)]
   simp only [dmP,List.getElem_map]
  have hLe:=YX s hs q.dims[i].col q.dims[i].lev
  have htl:((dmP s q).take i).length≤3:=by rw [List.length_take];omega
  simp only [tZ,↓un_u,simprocAttr,Int.toNat_natCast,qe hi2]
  refine ⟨by omega,?_⟩
  refine C1.im hLe (by rfl) (by rfl) ?_
  simp only [tZ,↓un_u,simprocAttr,hwi]
  refine ⟨by omega,by kernel_rfl,i + 1,by omega,by omega,?_⟩
  rw [hts,List.map_append,List.length_append]
  exact .oA [(4096,some 4096),(4100,some 4100),(1,some 1)] []
 ·have hil:i = q.dims.length:=by omega
  subst hil
  rw [← hdl,List.take_length]
  refine qw mixm (α:=Nat) [5,39] (fun i=>i≤s.cols.length) (fun i=>[(5,.asl 1 (dmP s q ++ usP s q i).length),(39,vI i)]) (fun i=>[(4096,.arr 2 [schT s] false),(4100,.arr 17 [qstT q] false),(1,.arr 2 ((dmP s q ++ usP s q i).map pkT) false)]) (fun i=>s.cols.length - i) 0 (by omega) ?_ fun i hi=>?_
  ·rw [show usP s q 0 = [] from rfl,List.append_nil]
   exact .oA [(4096,some 4096),(4100,some 4100),(1,some 1)] []
  have hul:=jl5 s q i
  have hus:=qU7 s q i
  have hoL:(dmP s q ++ usP s q i).length≤1000000:=by rw [List.length_append];omega
  refine sD ?_
  refine ⟨fun h3=>?_,fun h3=>?_⟩
  ·have hi2:i < s.cols.length:=by omega
   have hwi:=qj (i:=i) (by omega)
   refine C1.im (KZ q i (by omega)) (by rfl) (by rfl) ?_
   refine sW ?_
   refine ⟨fun h4=>?_,fun h4=>?_⟩
   ·rw [if_pos h4] at hus
    refine C1.im (yo s hs i) (by rfl) (by rfl) ?_
    refine sW ?_
    refine C1.im (YX s hs i (finI s i)) (by rfl) (by rfl) ?_
    simp only [tZ,↓un_u,simprocAttr,hwi]
    refine ⟨by omega,by kernel_rfl,i + 1,by omega,by omega,?_⟩
    rw [hus,← List.append_assoc,List.map_append,List.length_append (bs:=[_])]
    exact .oA [(4096,some 4096),(4100,some 4100),(1,some 1)] []
   ·rw [if_neg (by rw [h4];simp),List.append_nil] at hus
    simp only [tZ,↓un_u,simprocAttr,hwi]
    refine ⟨i + 1,by omega,by omega,?_⟩
    rw [hus]
    exact .oA [(4096,some 4096),(4100,some 4100),(1,some 1)] []
  ·have hil:i = s.cols.length:=by omega
   subst hil
   rw [zA8 h]
   unfold zm0 at hbd ⊢
   have hll:(dmP s q ++ usP s q s.cols.length).length = (dmP s q).length + (usP s q s.cols.length).length:=List.length_append
   generalize dmP s q ++ usP s q s.cols.length = own at hoL hbd hll ⊢
   refine W_le [(2,.ptr 4096 1 0 0),(3,.ptr 4100 1 0 0),(5,vPs own)] [(4096,.arr 2 [schT s] false),(4100,.arr 17 [qstT q] false)] ?_ ?_
   ·exact .oA [(4096,some 4096),(4100,some 4100)] [1]
   refine sW ?_
   refine C1.im (JY q) (by rfl) (by rfl) ?_
   generalize cnsL q = L at hck hcl hbd ⊢
   refine sW ?_
   refine qw mixm (α:=Nat) [9,62] (fun i=>i≤L.length) (fun i=>[(9,.asl 65540 (i + 1)),(62,vI i)]) (fun i=>[(4096,.arr 2 [schT s] false),(65540,.arr 1 (vPs own :: (L.take i).map fun c=>vPs (jH s c)) false)]) (fun i=>L.length - i) 0 (by omega) ?_ fun i hi=>?_
   ·exact .oA [(4096,some 4096),(65540,some 65540)] []
   have htl:(L.take i).length = i:=by rw [List.length_take];omega
   refine sD ?_
   refine ⟨fun h3=>?_,fun h3=>?_⟩
   ·have hi2:i < L.length:=by omega
    have hwi:=qj (i:=i) (by omega)
    have hN:=qp4 s hs L[i]
    simp only [tZ,↓un_u,simprocAttr,Int.toNat_natCast,qe hi2,zg]
    refine ⟨by omega,?_⟩
    refine C1.im hN (by rfl) (by rfl) ?_
    simp only [tZ,↓un_u,simprocAttr,hwi]
    refine ⟨by omega,i + 1,by omega,by omega,?_⟩
    rw [qR hi2,List.map_append]
    exact .oA [(4096,some 4096),(65540,some 65540)] []
   ·have hil:i = L.length:=by omega
    subst hil
    rw [List.take_length]
    have hfl:(own :: L.map (jH s)).flatten = own ++ L.flatMap (jH s):=by rw [List.flatten_cons,List.flatMap_def]
    have hbb:∀ l∈own :: L.map (jH s),∀ p∈l,0≤p.col∧p.col < s.cols.length:=fun l hl p hp=>by
     have:=hbd p (by rw [← hfl];exact List.mem_flatten.2 ⟨l,hl,hp⟩)
     omega
    have hbl:∀ l∈own :: L.map (jH s),l.length≤1000:=fun l hl=>by
     rcases List.mem_cons.1 hl with e | hl
     ·rw [e];omega
     ·obtain ⟨c,_,rfl⟩:=List.mem_map.1 hl
      have:=qC8 s c
      omega
    have hM:=qp8 (own :: L.map (jH s)) s.cols.length (by omega) (by omega) (by rw [List.length_cons,List.length_map];omega) hbl hbb
    rw [hfl,List.map_cons,List.map_map] at hM
    refine C1.shut [65540] hM ?_ (by rfl) rfl ?_
    ·all_goals (try exact clA)
    refine sW ?_
    exact .oA [] []
theorem ZC (s:Sch) (hs:QO s) (q:Qst) (l:List Pk) (hl:l.length < 4611686018427387904):Spc Tryz.prog jv [schT s,qstT q,vPs l] [] (vB (sufB s q l)) []:=by
 have hnl:=zR2 s q
 refine qd YC mixm (by simp) fun e _ hst=>qg ?_
 unfold kO
 refine sW ?_
 refine C1.im (jT s hs q) (by rfl) (by rfl) ?_
 refine sW ?_
 refine C2.im (fun _=>qJ3 s hs l hl) (fun _=>rfl) (by rfl) ?_
 refine sW ?_
 refine C2.im (fun _=>Ka s hs q) (fun _=>rfl) (by rfl) ?_
 refine sW ?_
 refine C2.im (fun _=>qk2 l (qC3 s q) hl (by omega)) (fun _=>rfl) (by rfl) ?_
 refine sW ?_
 rw [show (qstE s q == 0 && qC1 s l == 0 && covB (qC3 s q) l) = sufB s q l from rfl]
 exact .oA [] []
end Go.Proofs
namespace Go.Proofs
open Go Go.TL
theorem zz (l:List UInt8) (at_:Nat) (lo hi:Int) (hl:l.length≤400) (ha:at_≤l.length) (hlo : -1000000≤lo∧lo≤1000000) (hhi:lo≤hi∧hi≤lo + 100000) :
 Spc Tryz.prog qU [.ptr 0 1 0 0,vI lo,vI hi] [(0,oC l at_)] (vI (lo + (nx l at_ (hi - lo + 1)).1)) [(0,oC l (nx l at_ (hi - lo + 1)).2)]:=by
 refine qd qa9 mixm (by simp) fun e _ hst=>qg ?_
 unfold ww
 have hw1:IntKind.i64.wrap (hi - lo) = hi - lo:=IntWalk.i64_in _ (by omega)
 have hw2:IntKind.i64.wrap (hi - lo + 1) = hi - lo + 1:=IntWalk.i64_in _ (by omega)
 simp only [tZ,↓un_u,simprocAttr,hw1,hw2]
 refine C1.draw 0 l at_ _ (zH l at_ (hi - lo + 1) hl ha (by omega)) rfl rfl rfl ?_
 have hr:=wi l at_ (hi - lo + 1) (by omega)
 have hw3:IntKind.i64.wrap (lo + (nx l at_ (hi - lo + 1)).1) = lo + (nx l at_ (hi - lo + 1)).1:=IntWalk.i64_in _ (by omega)
 simp only [tZ,↓un_u,simprocAttr,hw3]
 refine .of [(0,some 0)] [] rfl rfl ?_ ?_
 ·simp only [tL,simprocAttr]
  exact qK ⟨rfl,rfl,rfl,rfl,trivial⟩ qT
 ·simp only [tL,simprocAttr]
end Go.Proofs
namespace Go.Proofs
open Go Go.TL
set_option maxRecDepth 4000
def iter {α:Type} (f:α→α):Nat→α→α
 | 0,x=>x
 | n + 1,x=>f (iter f n x)
def tie (p:Int×Int):Int:=p.1 * 1024 + p.2
def cut (n:Int):Int×Int:=(n / 1024,n % 1024)
end Go.Proofs
namespace Go.Proofs
open Go Go.TL
set_option maxHeartbeats 4000000
open So
def drw0 (seed id:Int):Int:=IntKind.u64.wrap (IntKind.u64.wrap (IntKind.u64.wrap (IntKind.u64.wrap seed * 2654435761) + IntKind.u64.wrap (IntKind.u64.wrap id * 40503)) + 97)
def drwA (h:Int):Int:=IntKind.u64.wrap (IntKind.u64.wrap (h * 6364136223846793005) + 1442695040888963407)
def drwX (h:Int):Int:=xorI .u64 (drwA h) (shrI .u64 (drwA h) 29)
def drwI (seed id:Int):Int:=IntKind.i64.wrap (shrI .u64 (iter drwX 3 (drw0 seed id)) 32)
def inS (x:Smp) (id:Int):Bool:=(smpE x == 0) && decide (1≤id) && decide (id≤1048575) && decide ((drwI x.seed id).tmod x.of < x.part)
def ownP (s:Src) (d:Dcl) (r:List Int):Bool:=(js3 s.sch d.coh r == 1) && inS d.smp (hd r)
def ownR (s:Src) (d:Dcl):List (List Int):=if srcB s = false∨dclE s.sch d≠0 then [] else s.rows.filter (ownP s d)
def ownS (s:Src) (d:Dcl):List Int:=(ownR s d).map hd
end Go.Proofs
namespace Go.Proofs
open Go Go.TL
set_option maxHeartbeats 4000000
def buildE (s:Src) (d:Dcl) (l:List Pk) (k:Int):Int:=if srcB s = false then 13 else if jq4 s.sch d l≠0 then jq4 s.sch d l else if k < 0∨k≥1152921504606846976 then 2 else 0
end Go.Proofs
namespace Go.Proofs
open Go Go.TL
set_option maxRecDepth 4000
set_option maxHeartbeats 4000000
def d36:ByteArray:=⟨#[48,49,50,51,52,53,54,55,56,57,97,98,99,100,101,102,103,104,105,106,107,108,109,110,111,112,113,114,115,116,117,118,119,120,121,122]⟩
theorem qO1 {a b:ByteArray} (h:a.data.toList = b.data.toList):a = b:=by
 cases a;cases b
 exact congrArg ByteArray.mk (Array.ext' h)
def dgS (n:Nat):ByteArray:=⟨#[dgt n]⟩
theorem jr0 (n:Nat) (h:n < 10):d36.extract n (n + 1) = dgS n:=by
 have:((List.range 10).all fun n=>(d36.extract n (n + 1)).data.toList == (dgS n).data.toList) = true:=by decide +kernel
 exact qO1 (eq_of_beq (List.all_eq_true.1 this n (List.mem_range.2 h)))
theorem zw3 (c:UInt8) (n:Nat):(⟨#[c]⟩:ByteArray) ++ dgS n = ⟨#[c,dgt n]⟩:=by
 apply qO1
 rw [ByteArray.toList_data_append]
 rfl
theorem jl6 (n:Nat) (h:n < 10):Spc Tryz.prog jo [vI n] [] (vS (dgS n)) []:=by
 have h1:=qj (i:=n) (by omega)
 have z1:d36.size = 36:=rfl
 refine qd Jv mixm (by simp) fun e _ hst=>qg ?_
 unfold jg
 simp only [tZ,↓un_u,simprocAttr,tD,h1,Int.toNat_natCast]
 refine ⟨fun h2=>?_,fun h2=>by omega⟩
 refine ⟨?_,?_⟩
 ·show (0≤(n:Int)∧(n:Int)≤((n + 1:Nat):Int)∧((n + 1:Nat):Int)≤(d36.size:Int))
  omega
 ·show Qd [] (vS (d36.extract n (n + 1))) [] (vS (dgS n)) []
  rw [jr0 n (by omega)]
  exact .oA [] []
theorem zw4 (n:Nat) (h:n < 10):Spc Tryz.prog kU [vI n] [] (vS (dgS n)) []:=by
 have h1:Spc Tryz.prog zE [vI n,vI 10] [] (vS (dgS n)) []:=by
  have e1:decide (0≤(n:Int)) = true:=decide_eq_true (by omega)
  have e2:decide ((n:Int) < 100) = true:=decide_eq_true (by omega)
  refine qd Qq mixm (by simp) fun e _ hst=>qg ?_
  unfold zA
  simp only [tZ,↓un_u,simprocAttr,beq_self_eq_true,e1,e2,Bool.true_and]
  refine C1.im (jl6 n h) (by rfl) (by rfl) ?_
  refine sW ?_
  exact .oA [] []
 have h2:Spc Tryz.prog jw [vI n] [] (vS (dgS n)) []:=by
  refine qd JO mixm (by simp) fun e _ hst=>qg ?_
  unfold jp
  refine sW ?_
  refine C1.im h1 (by rfl) (by rfl) ?_
  refine sW ?_
  exact .oA [] []
 refine qd qy7 mixm (by simp) fun e _ hst=>qg ?_
 unfold Zg
 refine sW ?_
 refine C1.im h2 (by rfl) (by rfl) ?_
 refine sW ?_
 exact .oA [] []
def oneB (l:List UInt8) (a:Nat) (n:Int):Bool:=(nx l a n).1 == n - 1
theorem wq (l:List UInt8) (a:Nat) (n:Int) (hl:l.length≤400) (ha:a≤l.length) (hn:0≤n∧n≤1000000):Spc Tryz.prog zh [.ptr 0 1 0 0,vI n] [(0,oC l a)] (vB (oneB l a n)) [(0,oC l (nx l a n).2)]:=by
 have hw:IntKind.i64.wrap (n - 1) = n - 1:=IntWalk.i64_in _ (by omega)
 refine qd qm4 mixm (by simp) fun e _ hst=>qg ?_
 unfold yB
 refine sW ?_
 refine C1.draw 0 l a _ (zH l a n hl ha hn.2) rfl rfl rfl ?_
 simp only [tZ,↓un_u,simprocAttr,hw]
 rw [show ((nx l a n).1 == n - 1) = oneB l a n from rfl]
 exact .oA [(0,some 0)] []
theorem ZD (l:List UInt8) (a:Nat) (n:Int) (hl:l.length≤400) (ha:a≤l.length) (hn:1≤n∧n≤1000000) :
 ∃ v b,0≤v∧v < n∧b≤l.length∧Spc Tryz.prog qy [.ptr 0 1 0 0,vI n] [(0,oC l a)] (vI v) [(0,oC l b)]:=
 ⟨_,_,(wi l a n hn.1).1,(wi l a n hn.1).2,qf5 l a n ha,zH l a n hl ha hn.2⟩
theorem qp9 (l:List UInt8) (a:Nat) (lo hi:Int) (hl:l.length≤400) (ha:a≤l.length) (hlo : -1000000≤lo∧lo≤1000000) (hhi:lo≤hi∧hi≤lo + 100000) :
 ∃ v b,lo≤v∧v≤hi∧b≤l.length∧Spc Tryz.prog qU [.ptr 0 1 0 0,vI lo,vI hi] [(0,oC l a)] (vI v) [(0,oC l b)]:=by
 have r:=wi l a (hi - lo + 1) (by omega)
 exact ⟨_,_,by omega,by omega,qf5 l a (hi - lo + 1) ha,zz l a lo hi hl ha hlo hhi⟩
theorem jl7 (l:List UInt8) (a:Nat) (n:Int) (hl:l.length≤400) (ha:a≤l.length) (hn:0≤n∧n≤1000000) :
 ∃ o b,b≤l.length∧Spc Tryz.prog zh [.ptr 0 1 0 0,vI n] [(0,oC l a)] (vB o) [(0,oC l b)]:=
 ⟨_,_,qf5 l a n ha,wq l a n hl ha hn⟩
theorem jl8 (m:Nat) (h:m < 4):wTab.getD m []∈wTab:=by rw [qk (by exact h)];exact List.getElem_mem _
theorem QB (n:Nat) (l:List UInt8) (a:Nat) (hl:l.length≤400) (ha:a≤l.length) :
 ∃ r:Col×Nat,(DrM n r.1∧r.2≤l.length)∧Spc Tryz.prog kJ [.ptr 0 1 0 0,vS ⟨#[109,dgt n]⟩] [(0,oC l a)] (colT r.1) [(0,oC l r.2)]:=by
 have h1:=zz l a (-4) 2 hl ha (by omega) (by omega)
 have r1:=wi l a (2 - -4 + 1) (by omega)
 have b1:=qf5 l a (2 - -4 + 1) ha
 generalize nx l a (2 - -4 + 1) = x1 at h1 r1 b1
 have h2:=zH l x1.2 4 hl b1 (by omega)
 have r2:=wi l x1.2 4 (by omega)
 have b2:=qf5 l x1.2 4 b1
 generalize nx l x1.2 4 = x2 at h2 r2 b2
 have h3:=wq l x2.2 3 hl b2 (by omega)
 have b3:=qf5 l x2.2 3 b2
 generalize (nx l x2.2 3).2 = a3 at h3 b3
 generalize oneB l x2.2 3 = o at h3
 have h4:=zH l a3 45 hl b3 (by omega)
 have r4:=wi l a3 45 (by omega)
 have b4:=qf5 l a3 45 b3
 generalize nx l a3 45 = x4 at h4 r4 b4
 refine ⟨(⟨⟨#[109,dgt n]⟩,3,0,-4 + x1.1,-4 + x1.1 + x4.1,wTab.getD x2.1.toNat [],o⟩,x4.2),⟨⟨rfl,rfl,rfl,by dsimp only;omega,by dsimp only;omega,jl8 _ (by omega)⟩,b4⟩,?_⟩
 obtain ⟨m,hm⟩:=Int.eq_ofNat_of_zero_le r2.1
 have hw:IntKind.i64.wrap (-4 + x1.1 + x4.1) = -4 + x1.1 + x4.1:=IntWalk.i64_in _ (by omega)
 refine qd WL mixm (by simp) fun e _ hst=>qg ?_
 unfold ka
 refine sW ?_
 refine C1.draw 0 l a _ h1 rfl rfl rfl ?_
 refine sW ?_
 refine C1.draw 0 l x1.2 _ h2 rfl rfl rfl ?_
 rw [hm] at r2 ⊢
 rw [Int.toNat_natCast]
 have hm4:m = 0∨m = 1∨m = 2∨m = 3:=by omega
 have k0:wTab.getD 0 [] = [1]:=rfl
 have k1:wTab.getD 1 [] = [1,5]:=rfl
 have k2:wTab.getD 2 [] = [1,5,20]:=rfl
 have k3:wTab.getD 3 [] = [1,2,4,12]:=rfl
 rcases hm4 with e | e | e | e
 all_goals (
  subst e
  simp only [tZ,↓un_u,simprocAttr,Int.toNat_natCast,k0,k1,k2,k3]
  repeat (refine ⟨by omega,?_⟩)
  refine C1.draw 0 l x2.2 _ h3 rfl rfl rfl ?_
  refine sW ?_
  refine ⟨by kernel_rfl,?_⟩
  refine C1.draw 0 l a3 _ h4 rfl rfl rfl ?_
  simp only [tZ,↓un_u,simprocAttr,hw]
  refine ⟨by kernel_rfl,?_⟩
  )
 ·exact .oA [(0,some 0)] [8204]
 ·exact .oA [(0,some 0)] [8208]
 ·exact .oA [(0,some 0)] [8212]
 ·exact .oA [(0,some 0)] [8216]
def addN (i:Nat):Nat→List Cod→List Cod
 | 0,cs=>cs
 | k + 1,cs=>addN i k (addL cs i)
theorem qD1 (i:Nat):∀ (k:Nat) (cs:List Cod),(List.range k).foldl (fun cs _=>addL cs i) cs = addN i k cs:=by
 have key:∀ (m:List Nat) (cs:List Cod),m.foldl (fun cs _=>addL cs i) cs = addN i m.length cs:=by
  intro m
  induction m with
  | nil=>intro cs;rfl
  | cons x m ih=>intro cs;rw [List.foldl_cons,ih];rfl
 intro k cs
 rw [key,List.length_range]
theorem zg8:∀ (ns:List Nat) (cs:List Cod) (i n:Nat),lefL cs i (ns ++ [n]) = addN (i + ns.length) n (lefL cs i ns)
 | [],cs,i,n=>by rw [List.nil_append,lefL,lefL,qD1];rfl
 | x :: r,cs,i,n=>by rw [List.cons_append,lefL,lefL,zg8 r _ (i + 1) n,List.length_cons,show i + 1 + r.length = i + (r.length + 1) by omega]
theorem zw5 (i:Nat):∀ (k:Nat) (cs:List Cod),(addN i k cs).length = cs.length + k
 | 0,cs=>rfl
 | k + 1,cs=>by rw [addN,zw5 i k,addL,List.length_append];simp;omega
theorem zw6:∀ (ns:List Nat) (cs:List Cod) (i:Nat),(∀ x∈ns,x = 1∨x = 2)→cs.length + ns.length≤(lefL cs i ns).length∧(lefL cs i ns).length≤cs.length + 2 * ns.length
 | [],cs,i,_=>by rw [lefL];simp
 | x :: r,cs,i,h=>by
   have h1:=zw6 r ((List.range x).foldl (fun cs _=>addL cs i) cs) (i + 1) fun y hy=>h y (List.mem_cons_of_mem _ hy)
   rw [qD1,zw5] at h1
   rw [lefL,qD1,List.length_cons]
   have:=h x (by simp)
   omega
theorem Kb (nm:ByteArray) (hnm:nm = ze1∨nm = ze2) (l:List UInt8) (a:Nat) (hl:l.length≤400) (ha:a≤l.length) :
 ∃ r:CodL×Nat,(DrL nm r.1∧r.2≤l.length)∧Spc Tryz.prog kv [.ptr 0 1 0 0,vS nm] [(0,oC l a)] (cdlT r.1) [(0,oC l r.2)]:=by
 have h1:=zz l a 1 3 hl ha (by omega) (by omega)
 have r1:=wi l a (3 - 1 + 1) (by omega)
 have b1:=qf5 l a (3 - 1 + 1) ha
 generalize nx l a (3 - 1 + 1) = x1 at h1 r1 b1
 obtain ⟨K,hK⟩:=Int.eq_ofNat_of_zero_le (show 0≤1 + x1.1 by omega)
 rw [hK] at h1
 have hK3:1≤K∧K≤3:=by omega
 refine jY qg5 mixm (fun r:CodL×Nat=>cdlT r.1) (fun r=>[(0,oC l r.2)]) (by simp) ?_
 unfold yc
 refine sW ?_
 refine XE.mp (fun _ _=>C1.draw 0 l a _ h1 rfl rfl rfl) ?_
 refine sW ?_
 have hk0:(Wo 0).map codT = [.agg [vS ⟨#[116,111,112]⟩,vI (-1)]]:=rfl
 have hkl:∀ i,(Wo i).length = i + 1:=fun i=>by simp [Wo]
 have hks:∀ i,Wo (i + 1) = Wo i ++ [kidC i]:=fun i=>by rw [Wo,List.range_succ,List.map_append];rfl
 refine XE.loopF mixm [7] (fun i:Nat=>i≤K) (fun i=>[(7,vI i)]) (fun i=>[(0,oC l x1.2),(4096,.arr 2 [cdlT default] false),(8200,.arr 2 ((Wo i).map codT) false),(8208,.arr 2 [.agg [vS nm,.asl 8200 (i + 1)]] false)]) (fun i=>K - i) 0 (by omega) (fun e ⟨_,hst⟩=>?_) fun T' i hi ih=>?_
 ·simp only [hk0]
  exact .oA [(0,some 0),(4096,some 4096),(8200,some 8200),(8208,some 8208)] []
 simp only [tZ,↓un_u,simprocAttr,decide_eq_true_eq,decide_eq_false_iff_not]
 refine XE.brN (fun h=>?_) (fun h=>?_)
 ·have hwi:=qj (i:=i) (by omega)
  refine XE.mp (fun _ _=>C1.im (zw4 i (by omega)) (by rfl) (by rfl)) ?_
  simp only [tZ,↓un_u,simprocAttr,hwi]
  refine XE.sd (show 1 + 1≤9223372036854775807 by omega) (XE.sd ⟨hkl i,by omega⟩ (XE.sd (hkl i) (XE.sd (by kernel_rfl) ?_)))
  refine XE.next ih (i + 1) (by omega) (by omega) fun e ⟨_,hst⟩=>?_
  rw [zw3,hks]
  exact .oA [(0,some 0),(4096,some 4096),(8200,some 8200),(8208,some 8208)] []
 ·have hiK:i = K:=by omega
  subst hiK
  have h2:=wq l x1.2 2 hl b1 (by omega)
  have b2:=qf5 l x1.2 2 b1
  generalize (nx l x1.2 2).2 = a2 at h2 b2
  generalize oneB l x1.2 2 = o at h2
  refine XE.mp (fun _ _=>C1.draw 0 l x1.2 _ h2 rfl rfl rfl) ?_
  refine sW ?_
  refine XE.brB (fun h3=>?_) (fun h3=>?_)
  ·refine XE.fin (⟨nm,Wo i⟩,a2) ⟨⟨rfl,(zQ0 hnm hK3).1,by rw [hkl];omega⟩,b2⟩ fun e ⟨_,hst⟩=>?_
   have hkli:=hkl i
   refine ⟨hkl i,?_⟩
   exact .oA [(0,some 0)] [8200]
  ·refine XE.loopF mixm [8] (fun y:List Nat×Nat=>y.1.length≤i∧(∀ x∈y.1,x = 1∨x = 2)∧y.2≤l.length) (fun y=>[(8,vI y.1.length)]) (fun y=>[(0,oC l y.2),(4096,.arr 2 [cdlT default] false),(8200,.arr 2 ((lefL (Wo i) 0 y.1).map codT) false),(8208,.arr 2 [.agg [vS nm,.asl 8200 (lefL (Wo i) 0 y.1).length]] false)]) (fun y=>i - y.1.length) ([],a2) ⟨by simp,by simp,b2⟩ (fun e ⟨_,hst⟩=>?_) fun T2 y hy ih2=>?_
   ·have hkli:=hkl i
    simp only [lefL]
    refine .of [(0,some 0),(4096,some 4096),(8200,some 8200),(8208,some 8208)] [] rfl (by first | rfl | (rw [hst];rfl)) ?_ ?_
    all_goals (try simp only [tL,simprocAttr,List.map_append,List.map_cons,List.map_nil,List.cons_append,List.nil_append,hkl])
    all_goals (try (repeat' (first | exact qT | (apply zj;intro _;exact ⟨rfl,rfl⟩) | (apply qz;intro _;exact ⟨rfl,rfl⟩) | with_reducible apply qJ | with_reducible refine qM ⟨rfl,rfl⟩ ?_ | exact qW | with_reducible apply qE | with_reducible refine qK ⟨rfl,rfl,?_⟩ ?_ | with_reducible apply And.intro | exact qG rfl | exact qG (by assumption) | (refine ⟨⟨?_,rfl,?_,rfl,?_⟩,trivial⟩ <;> first | (simp;done) | (apply qz;intro _;exact ⟨rfl,rfl⟩)) | trivial | rfl | (rw [qj (by omega)]) | omega)))
   obtain ⟨ns,a3⟩:=y
   obtain ⟨y1,y2,y3⟩:=hy
   dsimp only at y1 y2 y3
   have hll:=zw6 ns (Wo i) 0 y2
   rw [hkl] at hll
   simp only [tZ,↓un_u,simprocAttr,decide_eq_true_eq,decide_eq_false_iff_not]
   refine XE.brN (fun h4=>?_) (fun h4=>?_)
   ·have h5:=zz l a3 1 2 hl y3 (by omega) (by omega)
    have r5:=wi l a3 (2 - 1 + 1) (by omega)
    have b5:=qf5 l a3 (2 - 1 + 1) y3
    generalize nx l a3 (2 - 1 + 1) = x5 at h5 r5 b5
    obtain ⟨M,hM⟩:=Int.eq_ofNat_of_zero_le (show 0≤1 + x5.1 by omega)
    rw [hM] at h5
    have hsn:=zg8 ns (Wo i) 0 M
    rw [Nat.zero_add] at hsn
    refine XE.mp (fun _ _=>C1.draw 0 l a3 _ h5 rfl rfl rfl) ?_
    refine sW ?_
    generalize lefL (Wo i) 0 ns = cs at hll hsn ⊢
    refine XE.loopF mixm [9] (fun z:Nat×List Cod=>addN ns.length z.1 z.2 = addN ns.length M cs∧z.2.length + z.1 = cs.length + M) (fun z=>[(9,vI z.1)]) (fun z=>[(0,oC l x5.2),(4096,.arr 2 [cdlT default] false),(8200,.arr 2 (z.2.map codT) false),(8208,.arr 2 [.agg [vS nm,.asl 8200 z.2.length]] false)]) (fun z=>z.1) (M,cs) ⟨rfl,rfl⟩ (fun e ⟨_,hst⟩=>?_) fun T3 z hz ih3=>?_
    ·exact .oA [(0,some 0),(4096,some 4096),(8200,some 8200),(8208,some 8208)] []
    obtain ⟨k,ds⟩:=z
    obtain ⟨z1,z2⟩:=hz
    dsimp only at z1 z2
    simp only [tZ,↓un_u,simprocAttr,decide_eq_true_eq,decide_eq_false_iff_not]
    refine XE.brN (fun h6=>?_) (fun h6=>?_)
    ·have hwn:=qj (i:=ns.length) (by omega)
     have hwk:=Ki (i:=k) (by omega) (by omega)
     have hw1:IntKind.i64.wrap (1 + (ns.length:Int)) = 1 + (ns.length:Int):=IntWalk.i64_in _ (by omega)
     refine XE.mp (fun _ _=>C1.im (zw4 ds.length (by omega)) (by rfl) (by rfl)) ?_
     simp only [tZ,↓un_u,simprocAttr,hwk,hw1]
     refine XE.sd (show 1 + 1≤9223372036854775807 by omega) (XE.sd (by omega) (XE.sd (by kernel_rfl) ?_))
     refine XE.next ih3 (k - 1,addL ds ns.length) ⟨?_,by dsimp only;rw [addL,List.length_append];simp;omega⟩ (by dsimp only;omega) fun e ⟨_,hst⟩=>?_
     ·dsimp only
      rw [← z1]
      obtain ⟨j,rfl⟩:∃ j,k = j + 1:=⟨k - 1,by omega⟩
      rfl
     ·rw [zw3]
      have e1:addL ds ns.length = ds ++ [⟨⟨#[108,dgt ds.length]⟩,1 + (ns.length:Int)⟩]:=rfl
      rw [e1]
      exact .oA [(0,some 0),(4096,some 4096),(8200,some 8200),(8208,some 8208)] []
    ·have hk0:k = 0:=by omega
     subst hk0
     have hwn:=qj (i:=ns.length) (by omega)
     rw [addN,← hsn] at z1
     simp only [tZ,↓un_u,simprocAttr,hwn]
     refine XE.next ih2 (ns ++ [M],x5.2) ⟨by simp;omega,fun x hx=>?_,b5⟩ (by simp;omega) fun e ⟨_,hst⟩=>?_
     ·rcases List.mem_append.1 hx with hx | hx
      ·exact y2 x hx
      ·rw [List.mem_singleton.1 hx];omega
     ·simp only [z1,List.length_append,List.length_cons,List.length_nil]
      rw [← z1]
      exact .oA [(0,some 0),(4096,some 4096),(8200,some 8200),(8208,some 8208)] []
   ·have hni:ns.length = i:=by omega
    have hok:=(zQ0 hnm hK3).2 ns hni y2
    refine XE.fin (⟨nm,lefL (Wo i) 0 ns⟩,a3) ⟨⟨rfl,hok,by dsimp only;omega⟩,y3⟩ fun e ⟨_,hst⟩=>?_
    exact .oA [(0,some 0)] [8200]
end Go.Proofs
namespace Go.Proofs
open Go Go.TL
set_option maxRecDepth 4000
set_option maxHeartbeats 4000000
theorem qd6 (l:List UInt8) (a:Nat) (hl:l.length≤400) (ha:a≤l.length) :
 ∃ r:Sch×Nat,(DrS r.1∧r.2≤l.length)∧Spc Tryz.prog ju [.ptr 0 1 0 0] [(0,oC l a)] (schT r.1) [(0,oC l r.2)]:=by
 obtain ⟨⟨A,a1⟩,⟨dA,ha1⟩,sA⟩:=Kb ze1 (.inl rfl) l a hl ha
 obtain ⟨⟨B,a2⟩,⟨dB,ha2⟩,sB⟩:=Kb ze2 (.inr rfl) l a1 hl ha1
 dsimp only at dA ha1 sA dB ha2 sB
 have h1:=wq l a2 2 hl ha2 (by omega)
 have b1:=qf5 l a2 2 ha2
 generalize (nx l a2 2).2 = a3 at h1 b1
 generalize oneB l a2 2 = o at h1
 have h2:=zz l a3 1 3 hl b1 (by omega) (by omega)
 have r2:=wi l a3 (3 - 1 + 1) (by omega)
 have b2:=qf5 l a3 (3 - 1 + 1) b1
 generalize nx l a3 (3 - 1 + 1) = x2 at h2 r2 b2
 obtain ⟨N,hN⟩:=Int.eq_ofNat_of_zero_le (show 0≤1 + x2.1 by omega)
 rw [hN] at h2
 refine jY YA mixm (fun r:Sch×Nat=>schT r.1) (fun r=>[(0,oC l r.2)]) (by simp) ?_
 unfold kN
 refine sW ?_
 refine XE.mp (fun _ _=>C1.draw 0 l a _ sA rfl rfl rfl) ?_
 refine sW ?_
 refine XE.mp (fun _ _=>C1.draw 0 l a1 _ sB rfl rfl rfl) ?_
 refine sW ?_
 refine XE.mp (fun _ _=>C1.draw 0 l a2 _ h1 rfl rfl rfl) ?_
 refine sW ?_
 refine XE.brB (fun ho=>?_) (fun ho=>?_)
 ·refine XE.mp (fun _ _=>C1.draw 0 l a3 _ h2 rfl rfl rfl) ?_
  refine sW ?_
  refine XE.loopF mixm [4,15] (fun y:List Col×Nat=>y.1.length≤N∧(∀ i (h:i < y.1.length),DrM (3 + i) y.1[i])∧y.2≤l.length) (fun y=>[(4,vI ((N - y.1.length:Nat):Int))]) (fun y=>[(0,oC l y.2),(4096,.arr 2 [schT default] false),(8208,.arr 2 [cdlT A,cdlT B] false),(8220,.arr 7 (([whoC,sexC,jobC] ++ y.1).map colT) false),(8228,.arr 2 [.agg [.asl 8208 2,.asl 8220 (3 + y.1.length)]] false)]) (fun y=>N - y.1.length) ([],x2.2) ⟨by simp,fun i h=>by simp at h,b2⟩ (fun e ⟨_,hst⟩=>?_) fun T' y hy ih=>?_
  ·show Le _ _ ⟨[(4,vI N),(0,_),(2,_),(3,_)],[(0,oC l x2.2),(4096,.arr 2 [schT default] false),(8208,.arr 2 [cdlT A,cdlT B] false),(8220,.arr 7 [colT whoC,colT sexC,colT jobC] false),(8228,.arr 2 [.agg [.asl 8208 2,.asl 8220 3]] false)]⟩
   exact .oA [(0,some 0),(4096,some 4096),(8208,some 8208),(8220,some 8220),(8228,some 8228)] []
  obtain ⟨ms,a4⟩:=y
  obtain ⟨y1,y2,y3⟩:=hy
  dsimp only at y1 y2 y3
  simp only [tZ,↓un_u,simprocAttr,decide_eq_true_eq,decide_eq_false_iff_not]
  refine XE.brN (fun h4=>?_) (fun h4=>?_)
  ·have hlt:ms.length < N:=by omega
   have hI:=zw4 (3 + ms.length) (by omega)
   obtain ⟨⟨M,a5⟩,⟨dM,ha5⟩,sM⟩:=QB (3 + ms.length) l a4 hl y3
   dsimp only at dM ha5 sM
   have hwk:=Ki (i:=N - ms.length) (by omega) (by omega)
   refine XE.sd (by omega) ?_
   refine XE.mp (fun _ _=>C1.im hI (by rfl) (by rfl)) ?_
   simp only [tZ,↓un_u,simprocAttr,zw3]
   refine XE.sd (show 1 + 1≤9223372036854775807 by omega) ?_
   refine XE.mp (fun _ _=>C1.draw 0 l a4 _ sM rfl rfl rfl) ?_
   simp only [tZ,↓un_u,simprocAttr,hwk]
   refine XE.sd (by omega) (XE.sd (by omega) (XE.sd (by kernel_rfl) ?_))
   refine XE.next ih (ms ++ [M],a5) ⟨by simp;omega,fun i h=>?_,ha5⟩ (by simp;omega) fun e ⟨_,hst⟩=>?_
   ·dsimp only at h ⊢
    by_cases hi:i < ms.length
    ·rw [List.getElem_append_left hi]
     exact y2 i hi
    ·have he:i = ms.length:=by rw [List.length_append] at h;simp at h;omega
     subst he
     rw [List.getElem_append_right (Nat.le_refl _)]
     simpa using dM
   ·have e1:N - (ms ++ [M]).length = N - ms.length - 1:=by rw [List.length_append];simp;omega
    simp only [e1]
    exact .oA [(0,some 0),(4096,some 4096),(8208,some 8208),(8220,some 8220),(8228,some 8228)] []
  ·have hnl:ms.length = N:=by omega
   refine XE.fin (⟨[A,B],[whoC,sexC,jobC] ++ ms⟩,a4) ⟨⟨⟨A,B,rfl,dA,dB⟩,⟨ms,.inr ⟨rfl,y2⟩,by omega,by omega⟩⟩,y3⟩ fun e ⟨_,hst⟩=>?_
   refine ⟨by omega,?_⟩
   exact .oA [(0,some 0)] [8208,8220]
 ·refine XE.mp (fun _ _=>C1.draw 0 l a3 _ h2 rfl rfl rfl) ?_
  refine sW ?_
  refine XE.loopF mixm [4,15] (fun y:List Col×Nat=>y.1.length≤N∧(∀ i (h:i < y.1.length),DrM (2 + i) y.1[i])∧y.2≤l.length) (fun y=>[(4,vI ((N - y.1.length:Nat):Int))]) (fun y=>[(0,oC l y.2),(4096,.arr 2 [schT default] false),(8208,.arr 2 [cdlT A,cdlT B] false),(8220,.arr 7 (([whoC,sexC] ++ y.1).map colT) false),(8228,.arr 2 [.agg [.asl 8208 2,.asl 8220 (2 + y.1.length)]] false)]) (fun y=>N - y.1.length) ([],x2.2) ⟨by simp,fun i h=>by simp at h,b2⟩ (fun e ⟨_,hst⟩=>?_) fun T' y hy ih=>?_
  ·show Le _ _ ⟨[(4,vI N),(0,_),(2,_),(3,_)],[(0,oC l x2.2),(4096,.arr 2 [schT default] false),(8208,.arr 2 [cdlT A,cdlT B] false),(8220,.arr 7 [colT whoC,colT sexC] false),(8228,.arr 2 [.agg [.asl 8208 2,.asl 8220 2]] false)]⟩
   exact .oA [(0,some 0),(4096,some 4096),(8208,some 8208),(8220,some 8220),(8228,some 8228)] []
  obtain ⟨ms,a4⟩:=y
  obtain ⟨y1,y2,y3⟩:=hy
  dsimp only at y1 y2 y3
  simp only [tZ,↓un_u,simprocAttr,decide_eq_true_eq,decide_eq_false_iff_not]
  refine XE.brN (fun h4=>?_) (fun h4=>?_)
  ·have hlt:ms.length < N:=by omega
   have hI:=zw4 (2 + ms.length) (by omega)
   obtain ⟨⟨M,a5⟩,⟨dM,ha5⟩,sM⟩:=QB (2 + ms.length) l a4 hl y3
   dsimp only at dM ha5 sM
   have hwk:=Ki (i:=N - ms.length) (by omega) (by omega)
   refine XE.sd (by omega) ?_
   refine XE.mp (fun _ _=>C1.im hI (by rfl) (by rfl)) ?_
   simp only [tZ,↓un_u,simprocAttr,zw3]
   refine XE.sd (show 1 + 1≤9223372036854775807 by omega) ?_
   refine XE.mp (fun _ _=>C1.draw 0 l a4 _ sM rfl rfl rfl) ?_
   simp only [tZ,↓un_u,simprocAttr,hwk]
   refine XE.sd (by omega) (XE.sd (by omega) (XE.sd (by kernel_rfl) ?_))
   refine XE.next ih (ms ++ [M],a5) ⟨by simp;omega,fun i h=>?_,ha5⟩ (by simp;omega) fun e ⟨_,hst⟩=>?_
   ·dsimp only at h ⊢
    by_cases hi:i < ms.length
    ·rw [List.getElem_append_left hi]
     exact y2 i hi
    ·have he:i = ms.length:=by rw [List.length_append] at h;simp at h;omega
     subst he
     rw [List.getElem_append_right (Nat.le_refl _)]
     simpa using dM
   ·have e1:N - (ms ++ [M]).length = N - ms.length - 1:=by rw [List.length_append];simp;omega
    simp only [e1]
    exact .oA [(0,some 0),(4096,some 4096),(8208,some 8208),(8220,some 8220),(8228,some 8228)] []
  ·have hnl:ms.length = N:=by omega
   refine XE.fin (⟨[A,B],[whoC,sexC] ++ ms⟩,a4) ⟨⟨⟨A,B,rfl,dA,dB⟩,⟨ms,.inl ⟨rfl,y2⟩,by omega,by omega⟩⟩,y3⟩ fun e ⟨_,hst⟩=>?_
   refine ⟨by omega,?_⟩
   exact .oA [(0,some 0)] [8208,8220]
end Go.Proofs
namespace Go.Proofs
open Go Go.TL
set_option maxRecDepth 4000
set_option maxHeartbeats 4000000
theorem DrS.col {s:Sch} (h:DrS s) {i:Nat} (hi:i < s.cols.length) (hk:(qh s i).kind = 3):∃ n,DrM n (qh s i):=by
 obtain ⟨ms,hc,h1,h3⟩:=h.cs
 have key:∀ (pre:List Col) (n:Nat),(∀ c∈pre,c.kind≠3)→s.cols = pre ++ ms→(∀ j (hj:j < ms.length),DrM (n + j) ms[j])→∃ n,DrM n (qh s i):=by
  intro pre n hp he hm
  rw [qh,qk hi] at hk ⊢
  by_cases c:i < pre.length
  ·have e:s.cols[i] = pre[i]:=by simp only [he];exact List.getElem_append_left c
   rw [e] at hk
   exact absurd hk (hp _ (List.getElem_mem c))
  ·have hl:i - pre.length < ms.length:=by rw [he,List.length_append] at hi;omega
   have e:s.cols[i] = ms[i - pre.length]:=by simp only [he];exact List.getElem_append_right (by omega)
   rw [e]
   exact ⟨_,hm _ hl⟩
 rcases hc with ⟨hc,hm⟩ | ⟨hc,hm⟩
 ·exact key [whoC,sexC] 2 (by simp [whoC,sexC]) (by rw [hc];rfl) hm
 ·exact key [whoC,sexC,jobC] 3 (by simp [whoC,sexC,jobC]) (by rw [hc];rfl) hm
theorem DrS.nl {s:Sch} (h:DrS s):s.lists.length = 2:=by
 obtain ⟨a,b,e,_⟩:=h.ls
 rw [e];rfl
theorem qd7 (s:Sch) (hd:DrS s) (i:Nat) (hi:i < s.cols.length) (l:List UInt8) (a:Nat) (hl:l.length≤400) (ha:a≤l.length) :
 ∃ r:Int×Nat,(zN s i r.1 = true∧(i = 0→r.1≤60)∧r.2≤l.length)∧Spc Tryz.prog zZ [.ptr 0 1 0 0,schT s,vI i] [(0,oC l a)] (vI r.1) [(0,oC l r.2)]:=by
 have hE:=hd.ok
 have hok:=qZ hE
 have hat:qh s i = s.cols[i]:=by rw [qh,qk hi]
 have hk:=za (hok.cs i hi)
 have hH:∀ v,zN s i v = if s.cols[i].kind = 1 then inB v 1 1048575
  else if s.cols[i].kind = 2 then inB v 0 ((qH s i).codes.length - 1) && (lvlC (qH s i) v == zk (qH s i) - 1)
  else (s.cols[i].opt && (v == kT)) || inB v s.cols[i].low s.cols[i].high:=fun v=>by rw [zN,hat]
 by_cases k1:s.cols[i].kind = 1
 ·have h1:=zz l a 1 60 hl ha (by omega) (by omega)
  have r1:=wi l a (60 - 1 + 1) (by omega)
  have b1:=qf5 l a (60 - 1 + 1) ha
  generalize nx l a (60 - 1 + 1) = x1 at h1 r1 b1
  refine ⟨(1 + x1.1,x1.2),⟨by rw [hH,if_pos k1,QA];dsimp only;omega,fun _=>by dsimp only;omega,b1⟩,?_⟩
  have q:(s.cols[i].kind == 1) = true:=beq_iff_eq.2 k1
  refine qd zK mixm (by simp) fun e _ hst=>qg ?_
  unfold zi
  simp only [tZ,↓un_u,simprocAttr,Int.toNat_natCast,qe hi,q]
  refine ⟨by omega,?_⟩
  refine C1.draw 0 l a _ h1 rfl rfl rfl ?_
  refine sW ?_
  exact .oA [(0,some 0)] []
 have q1:(s.cols[i].kind == 1) = false:=beq_eq_false_iff_ne.2 k1
 have hi0:∀ v:Int,i = 0→v≤60:=fun v e=>by
  subst e
  have:=hok.c0
  rw [hat] at this
  exact absurd this k1
 by_cases k2:s.cols[i].kind = 2
 ·have q2:(s.cols[i].kind == 2) = true:=beq_iff_eq.2 k2
  have hlv:=qJ2 s hok i hi (by rw [hat];exact k2)
  have hll:=qo6 hok hi (by rw [hat];exact k2)
  obtain ⟨d1,d2⟩:=hok.cdl hi (by rw [hat];exact k2)
  have hne:0 < (qQ s i).length:=zQ3 d2
  have hlh:=fun v=>QX (s:=s) (i:=i) (by rw [hat];exact k2) d2 (v:=v)
  generalize qQ s i = L at hlv hll hne hlh
  have h1:=zH l a L.length hl ha (by omega)
  have r1:=wi l a L.length (by omega)
  have b1:=qf5 l a L.length ha
  generalize nx l a L.length = x1 at h1 r1 b1
  obtain ⟨m,hm⟩:=Int.eq_ofNat_of_zero_le r1.1
  have hmL:m < L.length:=by omega
  rw [hm] at h1
  refine ⟨(L[m],x1.2),⟨hlh _ (List.getElem_mem hmL),hi0 _,b1⟩,?_⟩
  refine qd zK mixm (by simp) fun e _ hst=>qg ?_
  unfold zi
  simp only [tZ,↓un_u,simprocAttr,Int.toNat_natCast,qe hi,q1,q2]
  refine ⟨by omega,?_⟩
  refine C1.im hlv (by rfl) (by rfl) ?_
  refine sW ?_
  refine C1.draw 0 l a _ h1 rfl rfl rfl ?_
  simp only [tZ,↓un_u,simprocAttr,Int.toNat_natCast,qe hmL]
  refine ⟨by omega,?_⟩
  exact .oA [(0,some 0)] []
 have q2:(s.cols[i].kind == 2) = false:=beq_eq_false_iff_ne.2 k2
 have k3:s.cols[i].kind = 3:=by rw [hat] at hk;omega
 obtain ⟨n,hM⟩:=hd.col hi (by rw [hat];exact k3)
 rw [hat] at hM
 have hlo:=hM.low
 have hhi:=hM.high
 have hin:∀ v,s.cols[i].low≤v→v≤s.cols[i].high→zN s i v = true:=fun v h1 h2=>by
  rw [hH,if_neg k1,if_neg k2,Bool.or_eq_true,QA]
  exact .inr ⟨h1,h2⟩
 cases ho:s.cols[i].opt with
 | false=>
   obtain ⟨v,a2,v1,v2,ha2,sR⟩:=qp9 l a s.cols[i].low s.cols[i].high hl ha (by omega) (by omega)
   refine ⟨(v,a2),⟨hin v v1 v2,hi0 _,ha2⟩,?_⟩
   refine qd zK mixm (by simp) fun e _ hst=>qg ?_
   unfold zi
   simp only [tZ,↓un_u,simprocAttr,Int.toNat_natCast,qe hi,q1,q2,ho]
   refine ⟨by omega,?_⟩
   refine C2.no (by simp) ?_
   refine sW ?_
   refine C1.draw 0 l a _ sR rfl rfl rfl ?_
   refine sW ?_
   exact .oA [(0,some 0)] []
 | true=>
   obtain ⟨o,a1,b1,h1⟩:=jl7 l a 4 hl ha (by omega)
   cases o with
   | true=>
     refine ⟨(kT,a1),⟨by rw [hH,if_neg k1,if_neg k2,ho];simp,hi0 _,b1⟩,?_⟩
     refine qd zK mixm (by simp) fun e _ hst=>qg ?_
     unfold zi
     simp only [tZ,↓un_u,simprocAttr,Int.toNat_natCast,qe hi,q1,q2,ho]
     refine ⟨by omega,?_⟩
     refine C2.one (by trivial) (C1.draw 0 l a _ h1 rfl rfl rfl ?_)
     refine sW ?_
     exact .oA [(0,some 0)] []
   | false=>
     obtain ⟨v,a2,v1,v2,ha2,sR⟩:=qp9 l a1 s.cols[i].low s.cols[i].high hl b1 (by omega) (by omega)
     refine ⟨(v,a2),⟨hin v v1 v2,hi0 _,ha2⟩,?_⟩
     refine qd zK mixm (by simp) fun e _ hst=>qg ?_
     unfold zi
     simp only [tZ,↓un_u,simprocAttr,Int.toNat_natCast,qe hi,q1,q2,ho]
     refine ⟨by omega,?_⟩
     refine C2.one (by trivial) (C1.draw 0 l a _ h1 rfl rfl rfl ?_)
     refine sW ?_
     refine C1.draw 0 l a1 _ sR rfl rfl rfl ?_
     refine sW ?_
     exact .oA [(0,some 0)] []
theorem ZS (s:Sch) (hd:DrS s) (i:Nat) (hi:i < s.cols.length) (l:List UInt8) (a:Nat) (hl:l.length≤400) (ha:a≤l.length) :
 ∃ r:Int×Nat,(zN s i r.1 = true∧r.2≤l.length)∧Spc Tryz.prog zZ [.ptr 0 1 0 0,schT s,vI i] [(0,oC l a)] (vI r.1) [(0,oC l r.2)]:=by
 obtain ⟨r,⟨h1,_,h3⟩,h⟩:=qd7 s hd i hi l a hl ha
 exact ⟨r,⟨h1,h3⟩,h⟩
structure DrX (x:Src):Prop where
 sch:DrS x.sch
 ok:SrcOk x
 gone:x.gone = []
 ver:x.ver = 0
end Go.Proofs
namespace Go.Proofs
open Go Go.TL
set_option maxRecDepth 4000
set_option maxHeartbeats 4000000
def KS (s:Sch) (kind:Int) (n:Nat):List Int:=List.map (fun i:Nat=>(i:Int)) ((List.range n).filter fun i=>(qh s i).kind == kind)
theorem jL (s:Sch) (kind:Int) (n:Nat):KS s kind (n + 1) = KS s kind n ++ (if (qh s n).kind = kind then [(n:Int)] else []):=by
 unfold KS
 rw [List.range_succ,List.filter_append,List.map_append]
 congr 1
 by_cases h:(qh s n).kind = kind
 ·rw [if_pos h,List.filter_cons,if_pos (beq_iff_eq.2 h)];rfl
 ·rw [if_neg h,List.filter_cons,if_neg (by rw [beq_iff_eq];exact h)];rfl
theorem qk5 (s:Sch) (kind:Int) (n:Nat):(KS s kind n).length≤n:=by
 unfold KS
 rw [List.length_map]
 exact Nat.le_trans (List.length_filter_le _ _) (by simp)
def JF (s:Sch) (kind:Int):List Int:=KS s kind s.cols.length
theorem ZE {s:Sch} {kind v:Int}:v∈JF s kind↔isB s v kind = true:=by
 unfold JF KS
 rw [zQ]
 simp only [List.mem_map,List.mem_filter,List.mem_range,beq_iff_eq]
 constructor
 ·rintro ⟨i,⟨h1,h2⟩,rfl⟩;exact ⟨by omega,by omega,by rw [Int.toNat_natCast];exact h2⟩
 ·rintro ⟨h1,h2,h3⟩;exact ⟨v.toNat,⟨by omega,h3⟩,by omega⟩
theorem yV (s:Sch) (kind:Int) (hn:s.cols.length≤1000):Spc Tryz.prog jJ [schT s,vI kind] [] (vIs (JF s kind)) []:=by
 refine qd qz7 mixm (by simp) fun e _ hst=>qg ?_
 unfold Zl
 refine sW ?_
 refine qw mixm (α:=Nat) [5,10] (fun i=>i≤s.cols.length) (fun i=>[(5,.asl 1 (KS s kind i).length),(10,vI i)]) (fun i=>[(4096,.arr 2 [schT s] false),(1,.arr 1 ((KS s kind i).map vI) false)]) (fun i=>s.cols.length - i) 0 (by omega) ?_ fun i hi=>?_
 ·show Le _ _ ⟨_,[(4096,.arr 2 [schT s] false),(1,.arr 1 [] false)]⟩
  exact .oA [(4096,some 4096),(1,none)] []
 have hfl:=qk5 s kind i
 refine sD ?_
 refine ⟨fun h=>?_,fun h=>?_⟩
 ·have hi2:i < s.cols.length:=by omega
  have hwi:=qj (i:=i) (by omega)
  have hat:qh s i = s.cols[i]:=by rw [qh,qk hi2]
  have hsu:=jL s kind i
  rw [hat] at hsu
  simp only [tZ,↓un_u,simprocAttr,Int.toNat_natCast,qe hi2,hwi,beq_iff_eq,beq_eq_false_iff_ne]
  refine ⟨by omega,fun h2=>?_,fun h2=>?_⟩
  ·rw [if_pos h2] at hsu
   refine ⟨by omega,i + 1,by omega,by omega,?_⟩
   rw [hsu]
   exact .oA [(4096,some 4096),(1,some 1)] []
  ·rw [if_neg h2,List.append_nil] at hsu
   refine ⟨i + 1,by omega,by omega,?_⟩
   rw [hsu]
   exact .oA [(4096,some 4096),(1,some 1)] []
 ·have hil:i = s.cols.length:=by omega
  subst hil
  exact .oA [] [1]
theorem DrS.code {s:Sch} (h:DrS s):0 < (JF s 2).length∧(JF s 2).length≤8:=by
 have hnc:=(qZ h.ok).nc
 have hl:=qk5 s 2 s.cols.length
 refine ⟨List.length_pos_of_mem (a:=1) (ZE.2 (zQ.2 ?_)),by unfold JF;omega⟩
 obtain ⟨ms,hc,h1,h3⟩:=h.cs
 rcases hc with ⟨hc,hm⟩ | ⟨hc,hm⟩
 ·refine ⟨by omega,by rw [hc];simp;omega,by rw [qh,hc];rfl⟩
 ·refine ⟨by omega,by rw [hc];simp;omega,by rw [qh,hc];rfl⟩
theorem DrS.meas {s:Sch} (h:DrS s):0 < (JF s 3).length∧(JF s 3).length≤8:=by
 have hnc:=(qZ h.ok).nc
 have hl:=qk5 s 3 s.cols.length
 refine ⟨?_,by unfold JF;omega⟩
 obtain ⟨ms,hc,h1,h3⟩:=h.cs
 rcases hc with ⟨hc,hm⟩ | ⟨hc,hm⟩
 ·refine List.length_pos_of_mem (a:=2) (ZE.2 (zQ.2 ⟨by omega,by rw [hc];simp;omega,?_⟩))
  have:=(hm 0 h1).kind
  rw [qh,hc]
  show ((whoC :: sexC :: ms).getD 2 default).kind = 3
  rw [qk (by simp;omega)]
  exact this
 ·refine List.length_pos_of_mem (a:=3) (ZE.2 (zQ.2 ⟨by omega,by rw [hc];simp;omega,?_⟩))
  have:=(hm 0 h1).kind
  rw [qh,hc]
  show ((whoC :: sexC :: jobC :: ms).getD 3 default).kind = 3
  rw [qk (by simp;omega)]
  exact this
theorem zS1 (s:Sch) (hd:DrS s) (l:List UInt8) (a:Nat) (hl:l.length≤400) (ha:a≤l.length) :
 ∃ (v:Nat) (b:Nat),isB s v 2 = true∧b≤l.length∧Spc Tryz.prog wR [.ptr 0 1 0 0,schT s] [(0,oC l a)] (vI v) [(0,oC l b)]:=by
 have hnc:=(qZ hd.ok).nc
 have hc:=yV s 2 (by omega)
 have hm:=fun v=>(ZE (s:=s) (kind:=2) (v:=v)).1
 obtain ⟨k1,k2⟩:=hd.code
 generalize JF s 2 = L at hc hm k1 k2
 obtain ⟨j,b,j1,j2,hb,sN⟩:=ZD l a L.length hl ha (by omega)
 obtain ⟨m,rfl⟩:=Int.eq_ofNat_of_zero_le j1
 have hmL:m < L.length:=by omega
 have hv:=hm _ (List.getElem_mem hmL)
 obtain ⟨v,e⟩:=Int.eq_ofNat_of_zero_le (zQ.1 hv).1
 refine ⟨v,b,by rw [← e];exact hv,hb,?_⟩
 rw [← e]
 refine qd qb7 mixm (by simp) fun e _ hst=>qg ?_
 unfold wz
 refine sW ?_
 refine C1.im hc (by rfl) (by rfl) ?_
 refine sW ?_
 refine C1.draw 0 l a _ sN rfl rfl rfl ?_
 simp only [tZ,↓un_u,simprocAttr,Int.toNat_natCast,qe hmL]
 refine ⟨by omega,?_⟩
 exact .oA [(0,some 0)] []
theorem yQ (s:Sch) (hd:DrS s) (l:List UInt8) (a:Nat) (hl:l.length≤400) (ha:a≤l.length) :
 ∃ (v:Nat) (b:Nat),isB s v 3 = true∧b≤l.length∧Spc Tryz.prog zw [.ptr 0 1 0 0,schT s] [(0,oC l a)] (vI v) [(0,oC l b)]:=by
 have hnc:=(qZ hd.ok).nc
 have hc:=yV s 3 (by omega)
 have hm:=fun v=>(ZE (s:=s) (kind:=3) (v:=v)).1
 obtain ⟨k1,k2⟩:=hd.meas
 generalize JF s 3 = L at hc hm k1 k2
 obtain ⟨j,b,j1,j2,hb,sN⟩:=ZD l a L.length hl ha (by omega)
 obtain ⟨m,rfl⟩:=Int.eq_ofNat_of_zero_le j1
 have hmL:m < L.length:=by omega
 have hv:=hm _ (List.getElem_mem hmL)
 obtain ⟨v,e⟩:=Int.eq_ofNat_of_zero_le (zQ.1 hv).1
 refine ⟨v,b,by rw [← e];exact hv,hb,?_⟩
 rw [← e]
 refine qd Wg mixm (by simp) fun e _ hst=>qg ?_
 unfold jP
 refine sW ?_
 refine C1.im hc (by rfl) (by rfl) ?_
 refine sW ?_
 refine C1.draw 0 l a _ sN rfl rfl rfl ?_
 simp only [tZ,↓un_u,simprocAttr,Int.toNat_natCast,qe hmL]
 refine ⟨by omega,?_⟩
 exact .oA [(0,some 0)] []
end Go.Proofs
