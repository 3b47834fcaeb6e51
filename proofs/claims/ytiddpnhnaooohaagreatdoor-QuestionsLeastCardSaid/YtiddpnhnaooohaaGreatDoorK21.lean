/- A part of the proof: trees of Go values, short forms, contracts. -/
import Derived.WalkKit
import Derived.Still
import Derived.MapKept
import GoSem.Builtin.Cap
import Derived.Laws.Externs
import GoSem.Extern.SlicesOverlaps
import Derived.Carry
import Derived.ProofKit
import Derived.OpenShut
import Derived.HandedShaped
import Derived.Lay
import Derived.LaidLaws
import Derived.MakeChecks
import Derived.SevenTiedAt
import Derived.Test.YtiddpnhnaooohaaGreatDoorChecked
import Derived.Test.YtiddpnhnaooohaaGreatDoorK20
set_option linter.unusedSimpArgs false
set_option linter.unusedVariables false
namespace Go.Proofs
open Go Go.TL
set_option maxRecDepth 4000
set_option maxHeartbeats 8000000
theorem qo3 (s:Sch) (hok:SchOk s) (q:Qst) (hd:q.dims.length≤3) (ht:q.terms.length≤3) (hc:∀ c∈cnsL q,chkC s c = 0) (k a b:Int):Spc Tryz.prog Qa [schT s,qstT q,vI k,vI a,vI b] [] (vB (WX s q k a b)) []:=by
 have hs:=hok.sm
 have hT:WX s q k a b = ((usB q k && (a != b)) || (q.dims.any fun d=>(d.col == k) && (qh s k d.lev a != qh s k d.lev b)) || ((cnsL q).any fun c=>(atsC c).any fun x=>(x.col == k) && (zr s x a != zr s x b))):=rfl
 have hcl:(cnsL q).length≤2:=by unfold cnsL;split <;> simp
 rw [hT]
 refine qe qh6 mixm (by simp) fun e _ hst=>qo ?_
 unfold yr
 refine sW ?_
 refine C1.im (Kj q k (by omega)) (by rfl) (by rfl) ?_
 refine sW ?_
 generalize (usB q k && (a != b)) = U
 refine ⟨fun h=>?_,fun h=>?_⟩
 ·rw [h]
  exact .oA [] []
 rw [h,Bool.false_or]
 refine qE mixm (α:=Nat) [28] (fun i=>i≤q.dims.length∧((q.dims.take i).any fun d=>(d.col == k) && (qh s k d.lev a != qh s k d.lev b)) = false) (fun i=>[(28,vI i)]) (fun i=>[(4096,.arr 2 [schT s] false),(4100,.arr 17 [qstT q] false)]) (fun i=>q.dims.length - i) 0 ⟨by omega,rfl⟩ ?_ fun i hi=>?_
 ·exact .oA [(4096,some 4096),(4100,some 4100)] []
 refine sD ?_
 refine ⟨fun h3=>?_,fun h3=>?_⟩
 ·have hi2:i < q.dims.length:=by omega
  have hwi:=qr (i:=i) (by omega)
  simp only [tZ,↓un_u,simprocAttr,Int.toNat_natCast,qg hi2]
  refine ⟨by omega,?_⟩
  have hC:=fun v=>qx5 s hs k q.dims[i].lev v
  refine C2.im (fun _=>hC a) (fun _=>rfl) (by rfl) ?_
  refine sW ?_
  refine C2.im (fun _=>hC b) (fun _=>rfl) (by rfl) ?_
  simp only [tZ,↓un_u,simprocAttr,hwi]
  repeat (first | refine ⟨by omega,?_⟩ | refine ⟨by kernel_rfl,?_⟩)
  refine ⟨fun h4=>?_,fun h4=>?_⟩
  ·rw [qs9 hi2 h4,Bool.true_or]
   exact .oA [] []
  ·refine ⟨i + 1,⟨by omega,kh hi2 hi.2 h4⟩,by omega,?_⟩
   exact .oA [(4096,some 4096),(4100,some 4100)] []
 ·have hil:i = q.dims.length:=by omega
  subst hil
  have hi2:=hi.2
  rw [List.take_length] at hi2
  rw [hi2,Bool.false_or]
  refine C1.im (Jq q) (by rfl) (by rfl) ?_
  generalize cnsL q = L at hc hcl ⊢
  refine sW ?_
  refine qE mixm (α:=Nat) [55] (fun i=>i≤L.length∧((L.take i).any fun c=>(atsC c).any fun x=>(x.col == k) && (zr s x a != zr s x b)) = false) (fun i=>[(55,vI i)]) (fun i=>[(4096,.arr 2 [schT s] false)]) (fun i=>L.length - i) 0 ⟨by omega,rfl⟩ ?_ fun i hi=>?_
  ·exact .oA [(4096,some 4096)] []
  refine sD ?_
  refine ⟨fun h4=>?_,fun h4=>?_⟩
  ·have hi2:i < L.length:=by omega
   have hwi:=qr (i:=i) (by omega)
   obtain ⟨_,k2,_,k4⟩:=Wj (hc _ (List.getElem_mem hi2))
   have hal:=qL2 L[i] 41 (by omega) k2
   have hao:=qG0 L[i] k4
   have hhit:(((atsC L[i]).any fun x=>(x.col == k) && (zr s x a != zr s x b)) = true)→(L.any fun c=>(atsC c).any fun x=>(x.col == k) && (zr s x a != zr s x b)) = true:=fun h=>qs9 hi2 h
   have hgo:(((atsC L[i]).any fun x=>(x.col == k) && (zr s x a != zr s x b)) = false)→((L.take (i + 1)).any fun c=>(atsC c).any fun x=>(x.col == k) && (zr s x a != zr s x b)) = false:=fun h=>kh hi2 hi.2 h
   simp only [tZ,↓un_u,simprocAttr,Int.toNat_natCast,qg hi2,jP]
   refine ⟨by omega,?_⟩
   refine C1.im (Jo L[i] 41 (by omega) (by omega) k2) (by rfl) (by rfl) ?_
   generalize atsC L[i] = A at hal hao hhit hgo ⊢
   refine sW ?_
   refine qE mixm (α:=Nat) [62] (fun j=>j≤A.length∧((A.take j).any fun x=>(x.col == k) && (zr s x a != zr s x b)) = false) (fun j=>[(62,vI j)]) (fun j=>[(4096,.arr 2 [schT s] false)]) (fun j=>A.length - j) 0 ⟨by omega,rfl⟩ ?_ fun j hj=>?_
   ·exact .oA [(4096,some 4096)] []
   refine sD ?_
   refine ⟨fun h5=>?_,fun h5=>?_⟩
   ·have hj2:j < A.length:=by omega
    have hwj:=qr (i:=j) (by omega)
    obtain ⟨hnd,ha⟩:=hao _ (List.getElem_mem hj2)
    have hAt:=Kh s hok A[j] hnd ha
    simp only [tZ,↓un_u,simprocAttr,Int.toNat_natCast,qg hj2,jP]
    refine ⟨by omega,?_⟩
    refine C2.im (fun _=>hAt a) (fun _=>rfl) (by rfl) ?_
    refine sW ?_
    refine C2.im (fun _=>hAt b) (fun _=>rfl) (by rfl) ?_
    simp only [tZ,↓un_u,simprocAttr,hwj]
    repeat (first | refine ⟨by omega,?_⟩ | refine ⟨by kernel_rfl,?_⟩)
    refine ⟨fun h6=>?_,fun h6=>?_⟩
    ·rw [hhit (qs9 hj2 h6)]
     exact .oA [] []
    ·refine ⟨j + 1,⟨by omega,kh hj2 hj.2 h6⟩,by omega,?_⟩
     exact .oA [(4096,some 4096)] []
   ·have hjl:j = A.length:=by omega
    subst hjl
    have hj2:=hj.2
    rw [List.take_length] at hj2
    simp only [tZ,↓un_u,simprocAttr,hwi]
    refine ⟨i + 1,⟨by omega,hgo hj2⟩,by omega,?_⟩
    exact .oA [(4096,some 4096)] []
  ·have hil:i = L.length:=by omega
   subst hil
   have hi2:=hi.2
   rw [List.take_length] at hi2
   rw [hi2]
   exact .oA [] []
def yW (s:Sch) (q:Qst) (k a b:Int):Bool:=(qstE s q == 0) && canB s k a && canB s k b && WX s q k a b
theorem Js (s:Sch) (hs:Jk s) (q:Qst) (k a b:Int):Spc Tryz.prog ki [schT s,qstT q,vI k,vI a,vI b] [] (vB (yW s q k a b)) []:=by
 refine qe qb1 mixm (by simp) fun e _ hst=>qo ?_
 unfold wM
 refine sW ?_
 refine C1.im (jQ s hs q) (by rfl) (by rfl) ?_
 by_cases h0:qstE s q = 0
 ·obtain ⟨hE,hc,hd,ht⟩:=zT0 h0
  simp only [tZ,↓un_u,simprocAttr,h0,beq_self_eq_true]
  refine C2.im (fun _=>Wq s hE k a) (fun _=>rfl) (by rfl) ?_
  refine sW ?_
  refine C2.im (fun _=>Wq s hE k b) (fun _=>rfl) (by rfl) ?_
  refine sW ?_
  refine C2.im (fun _=>qo3 s (qK hE) q hd ht hc k a b) (fun _=>rfl) (by rfl) ?_
  refine sW ?_
  rw [show yW s q k a b = (canB s k a && canB s k b && WX s q k a b) by rw [yW,h0];simp]
  exact .oA [] []
 ·have e:(qstE s q == 0) = false:=beq_eq_false_iff_ne.2 h0
  rw [show yW s q k a b = false by rw [yW,e];rfl]
  simp only [tZ,↓un_u,simprocAttr,e]
  refine C2.no (by simp) ?_
  refine sW ?_
  refine C2.no (by simp) ?_
  refine sW ?_
  refine C2.no (by simp) ?_
  refine sW ?_
  exact .oA [] []
end Go.Proofs
namespace Go.Proofs
open Go Go.TL
set_option maxRecDepth 4000
set_option maxHeartbeats 8000000
def mxc:List Pk→Int
 | []=>0
 | p :: r=>max p.col (mxc r)
theorem zK8:∀ l:List Pk,0≤mxc l
 | []=>Int.le_refl _
 | p :: r=>by have:=zK8 r;rw [mxc];omega
theorem zo4:∀ (l:List Pk) (p:Pk),mxc (l ++ [p]) = max (mxc l) p.col
 | [],p=>by show max p.col 0 = max 0 p.col;omega
 | q :: r,p=>by rw [List.cons_append,mxc,mxc,zo4 r p];omega
theorem ja0 {n:Int} (hn:0≤n):∀ {l:List Pk},(∀ p∈l,p.col≤n)→mxc l≤n
 | [],_=>hn
 | p :: r,h=>by
   have h1:=h p (by simp)
   have h2:=ja0 hn (l:=r) fun q hq=>h q (List.mem_cons_of_mem _ hq)
   rw [mxc];omega
theorem ja1:∀ {l:List Pk} {p:Pk},p∈l→p.col≤mxc l
 | q :: r,p,h=>by
   rw [mxc]
   rcases List.mem_cons.1 h with e | h
   ·rw [e];omega
   ·have:=ja1 h;omega
theorem qk0 (ls:List (List Pk)) (n:Nat) (h1:1≤n) (h2:n≤1000) (hls:ls.length≤1000) (hl:∀ l∈ls,l.length≤1000) (hb:∀ l∈ls,∀ p∈l,0≤p.col∧p.col < n) :
 Spc Tryz.prog yo [.sl 1 (ls.map vPs)] [] (vPs (canF (fun k=>mxl ls.flatten k) n)) []:=by
 refine qe qc8 mixm (by simp) fun e _ hst=>qo ?_
 unfold wV
 refine sW ?_
 refine qE mixm (α:=Nat×List (Int×Int)) [4,14] (fun y=>y.1≤ls.length∧∀ k,(TL.look TL.eqI k y.2).getD 0 = mxl (ls.take y.1).flatten k) (fun y=>[(4,vI (mxc (ls.take y.1).flatten)),(14,vI y.1)]) (fun y=>[(8192,.mp (.ii y.2))]) (fun y=>ls.length - y.1) (0,[]) ⟨by simp,fun k=>rfl⟩ ?_ fun y hy=>?_
 ·exact .oA [(8192,some 8192)] []
 obtain ⟨i,M⟩:=y
 obtain ⟨y1,y2⟩:=hy
 dsimp only at y1 y2
 refine sD ?_
 refine ⟨fun h=>?_,fun h=>?_⟩
 ·have hi:i < ls.length:=by omega
  have hwi:=qr (i:=i) (by omega)
  have hll:=hl _ (List.getElem_mem hi)
  have hbb:=hb _ (List.getElem_mem hi)
  have hfl:(ls.take (i + 1)).flatten = (ls.take i).flatten ++ ls[i]:=by rw [qX hi,List.flatten_append];simp
  generalize (ls.take i).flatten = A at y2 hfl ⊢
  simp only [tZ,↓un_u,simprocAttr,Int.toNat_natCast,qg hi]
  refine ⟨by omega,?_⟩
  generalize ls[i] = l at hll hbb hfl ⊢
  refine qE mixm (α:=Nat×List (Int×Int)) [4,20] (fun y=>y.1≤l.length∧∀ k,(TL.look TL.eqI k y.2).getD 0 = mxl (A ++ l.take y.1) k) (fun y=>[(4,vI (mxc (A ++ l.take y.1))),(20,vI y.1)]) (fun y=>[(8192,.mp (.ii y.2))]) (fun y=>l.length - y.1) (0,M) ⟨by simp,fun k=>by rw [List.take_zero,List.append_nil];exact y2 k⟩ ?_ fun y hy=>?_
  ·refine .of [(8192,some 8192)] [] rfl (by first | rfl | (rw [hst];rfl)) ?_ ?_
   all_goals (try simp only [tL,simprocAttr,List.map_append,List.map_cons,List.map_nil,List.cons_append,List.nil_append,List.take_zero,List.append_nil])
   all_goals (try (repeat' (first | exact zg | (apply zR;intro _;exact ⟨rfl,rfl⟩) | (apply qM;intro _;exact ⟨rfl,rfl⟩) | with_reducible apply qV | with_reducible refine qR ⟨rfl,rfl⟩ ?_ | exact zh | with_reducible apply qT | with_reducible refine qQ ⟨rfl,rfl,?_⟩ ?_ | with_reducible apply And.intro | exact qU rfl | exact qU (by assumption) | (refine ⟨⟨?_,rfl,?_,rfl,?_⟩,trivial⟩ <;> first | (simp;done) | (apply qM;intro _;exact ⟨rfl,rfl⟩)) | trivial | rfl | (rw [qr (by omega)]) | omega)))
  obtain ⟨j,N⟩:=y
  obtain ⟨z1,z2⟩:=hy
  dsimp only at z1 z2
  refine sD ?_
  refine ⟨fun h5=>?_,fun h5=>?_⟩
  ·have hj:j < l.length:=by omega
   have hwj:=qr (i:=j) (by omega)
   have hts:A ++ l.take (j + 1) = A ++ l.take j ++ [l[j]]:=by rw [qX hj,List.append_assoc]
   have hnew:∀ k,(TL.look TL.eqI k (TL.asg TL.eqI l[j].col (max (mxl (A ++ l.take j) l[j].col) l[j].lev) N)).getD 0 = mxl (A ++ l.take (j + 1)) k:=fun k=>by
    rw [qf1,hts,zo2]
    by_cases e:k = l[j].col
    ·subst e
     rw [if_pos rfl,if_pos rfl];rfl
    ·rw [if_neg e,if_neg (fun h=>e h.symm)]
     exact z2 k
   have hx:=zo4 (A ++ l.take j) l[j]
   rw [← hts] at hx
   have hz:=z2 l[j].col
   simp only [tZ,↓un_u,simprocAttr,Int.toNat_natCast,qg hj,hwj,qX8,hz,← hx]
   refine ⟨by omega,by kernel_rfl,?_⟩
   refine ⟨(j + 1,_),⟨by dsimp only;omega,hnew⟩,by dsimp only;omega,?_⟩
   exact .oA [(8192,some 8192)] []
  ·have hjl:j = l.length:=by omega
   subst hjl
   rw [List.take_length,← hfl] at z2 ⊢
   simp only [tZ,↓un_u,simprocAttr,hwi]
   refine ⟨(i + 1,N),⟨by dsimp only;omega,z2⟩,by dsimp only;omega,?_⟩
   exact .oA [(8192,some 8192)] []
 ·have hil:i = ls.length:=by omega
  subst hil
  rw [List.take_length] at y2 ⊢
  have hbf:∀ p∈ls.flatten,0≤p.col∧p.col < n:=fun p hp=>by
   obtain ⟨l,hl,hpl⟩:=List.mem_flatten.1 hp
   exact hb l hl p hpl
  have hml:=ja0 (n:=n - 1) (by omega) (l:=ls.flatten) fun p hp=>by have:=hbf p hp;omega
  have hmp:=zK8 ls.flatten
  have hmore:canF (fun k=>mxl ls.flatten k) n = canF (fun k=>mxl ls.flatten k) ((mxc ls.flatten).toNat + 1):=by
   rw [show n = (mxc ls.flatten).toNat + 1 + (n - ((mxc ls.flatten).toNat + 1)) by omega,qY0]
   intro k hk _
   rw [Kd fun p hp=>by have:=ja1 hp;omega]
   exact Int.le_refl _
  rw [hmore]
  obtain ⟨c,hc⟩:=Int.eq_ofNat_of_zero_le hmp
  rw [hc,Int.toNat_natCast]
  have hwc:=qr (i:=c) (by omega)
  rw [hwc]
  generalize ls.flatten = A at y2 ⊢
  refine qE mixm (α:=Nat) [9,42] (fun k=>k≤c + 1) (fun k=>[(9,.asl 1 (canF (fun k=>mxl A k) k).length),(42,vI k)]) (fun k=>[(8192,.mp (.ii M)),(1,.arr 2 ((canF (fun k=>mxl A k) k).map pkT) false)]) (fun k=>c + 1 - k) 0 (by omega) ?_ fun k hk=>?_
  ·exact .oA [(8192,some 8192),(1,none)] []
  have hcl:=qM5 (fun k=>mxl A k) k
  have hcs:canF (fun k=>mxl A k) (k + 1) = canF (fun k=>mxl A k) k ++ (if 0 < mxl A k then [⟨(k:Nat),mxl A k⟩] else []):=by rw [canF]
  have hz:=y2 k
  refine sD ?_
  refine ⟨fun h5=>?_,fun h5=>?_⟩
  ·have hwk:=qr (i:=k) (by omega)
   simp only [tZ,↓un_u,simprocAttr,hz,hwk,gt_iff_lt,tD]
   refine ⟨fun h6=>?_,fun h6=>?_⟩
   ·rw [if_pos h6] at hcs
    refine ⟨by omega,k + 1,by omega,by omega,?_⟩
    rw [hcs,List.map_append,List.length_append]
    exact .oA [(8192,some 8192),(1,some 1)] []
   ·rw [if_neg h6,List.append_nil] at hcs
    refine ⟨k + 1,by omega,by omega,?_⟩
    rw [hcs]
    exact .oA [(8192,some 8192),(1,some 1)] []
  ·rw [show k = c + 1 by omega]
   exact .oA [] [1]
theorem qf5 {s:Sch} {q:Qst} (hq:QstOk s q):∀ d∈q.dims,Kw s d = 0∧isB s d.col 2 = true:=fun d hd=>by
 by_cases h1:q.kind = 1
 ·have h2:=(hq.dims h1).1
  unfold ZS at h2
  split at h2
  ·cases h2
  obtain ⟨i,hi,rfl⟩:=List.getElem_of_mem hd
  have h3:=qG2 h2 i hi
  have hp:pkAt q.dims i = q.dims[i]:=by rw [pkAt,qj hi]
  unfold dimE at h3
  rw [hp] at h3
  split at h3
  ·rename_i h4;exact absurd h3 h4
  rename_i h4
  split at h3
  ·cases h3
  rename_i h5
  exact ⟨Classical.byContradiction h4,by simpa using h5⟩
 ·rw [hq.d0 h1] at hd
  simp at hd
theorem qY4 {s:Sch} {q:Qst} (hq:QstOk s q):∀ c∈cnsL q,chkC s c = 0:=fun c hc=>by
 unfold cnsL at hc
 split at hc
 ·rename_i h
  rcases List.mem_cons.1 hc with e | hc
  ·rw [e];exact hq.filt
  ·rw [List.mem_singleton.1 hc];exact (hq.event h).2.2
 ·rw [List.mem_singleton.1 hc];exact hq.filt
theorem qM9 {s:Sch} {q:Qst} {n:Nat} {p:Pk}:p∈usP s q n↔∃ k:Nat,k < n∧usB q k = true∧p = ⟨k,jo s k (finI s k)⟩:=by
 unfold usP
 simp only [List.mem_map,List.mem_filter,List.mem_range]
 constructor
 ·rintro ⟨k,⟨h1,h2⟩,rfl⟩;exact ⟨k,h1,h2,rfl⟩
 ·rintro ⟨k,h1,h2,rfl⟩;exact ⟨k,⟨h1,h2⟩,rfl⟩
theorem jf4 (s:Sch) (q:Qst) (n:Nat):(usP s q n).length≤n:=by
 unfold usP
 rw [List.length_map]
 have:=List.length_filter_le (fun k:Nat=>usB q k) (List.range n)
 rw [List.length_range] at this
 exact this
def jD (s:Sch) (q:Qst):List Pk:=dmP s q ++ usP s q s.cols.length ++ (cnsL q).flatMap (jq s)
theorem zo5 {s:Sch} {q:Qst} (hq:QstOk s q):∀ p∈jD s q,1≤p.col∧p.col < s.cols.length:=fun p hp=>by
 unfold jD at hp
 rcases List.mem_append.1 hp with hp | hp
 ·rcases List.mem_append.1 hp with hp | hp
  ·obtain ⟨d,hd,rfl⟩:=List.mem_map.1 hp
   obtain ⟨_,h1,h2,_⟩:=qp2 (qf5 hq d hd).1
   exact ⟨h1,h2⟩
  ·obtain ⟨k,h1,h2,rfl⟩:=qM9.1 hp
   unfold usB at h2
   rw [Bool.and_eq_true,decide_eq_true_eq] at h2
   exact ⟨by dsimp only;omega,by dsimp only;omega⟩
 ·obtain ⟨c,hc,hp⟩:=List.mem_flatMap.1 hp
  exact zT1 (qY4 hq c hc) p hp
theorem qH1 {s:Sch} {q:Qst} (h:qstE s q = 0):YL s q = canF (fun k=>mxl (jD s q) k) s.cols.length:=by
 have hq:=YN h
 have hb:=zo5 hq
 obtain ⟨n1,n2⟩:=Jr hq.filt
 rw [zd5 h,n1,qj9 _ (fun k=>Zn _ _) fun p hp=>?_]
 ·refine Jp fun k _=>?_
  rw [← qY3 hq.filt k]
  have e:(cnsL q).flatMap (jq s) = jq s q.filt ++ evP s q:=by
   unfold cnsL evP
   split <;> simp
  rw [jD,e]
  simp only [qM6]
  omega
 ·have:p∈jD s q:=by
   unfold jD
   have e:(cnsL q).flatMap (jq s) = jq s q.filt ++ evP s q:=by
    unfold cnsL evP
    split <;> simp
   rw [e]
   simp only [List.mem_append] at hp ⊢
   rcases hp with (h | h) | h
   ·exact .inr (.inr h)
   ·exact .inl (.inl h)
   ·exact .inl (.inr h)
  have:=hb p this
  omega
theorem yJ (s:Sch) (hs:Jk s) (q:Qst):Spc Tryz.prog jc [schT s,qstT q] [] (vPs (YL s q)) []:=by
 refine Yk [15] qb5 mixm (by simp) fun e _ hst=>qo ?_
 unfold wO
 simp only [KK,List.contains_cons,List.contains_nil,Nat.reduceBEq,Bool.or_false,Bool.or_true,Bool.true_or,Bool.false_or,cond_true,cond_false]
 refine sW ?_
 refine C1.im (jQ s hs q) (by rfl) (by rfl) ?_
 simp only [tZ,↓un_u,simprocAttr,bne_iff_ne,bne_eq_false_iff_eq]
 refine ⟨fun h=>?_,fun h=>?_⟩
 ·rw [YL,if_pos h]
  exact .oA [] []
 have hq:=YN h
 have hok:=qK hq.sch
 have hnc:=hok.nc
 have hnd:=hq.nd
 have hnt:=hq.nt
 have hck:=qY4 hq
 have hcl:(cnsL q).length≤2:=by unfold cnsL;split <;> simp
 have hdl:(dmP s q).length = q.dims.length:=List.length_map _
 have hbd:=zo5 hq
 refine qE mixm (α:=Nat) [5,19] (fun i=>i≤q.dims.length) (fun i=>[(5,.asl 1 ((dmP s q).take i).length),(19,vI i)]) (fun i=>[(4096,.arr 2 [schT s] false),(4100,.arr 17 [qstT q] false),(1,.arr 2 (((dmP s q).take i).map pkT) false)]) (fun i=>q.dims.length - i) 0 (by omega) ?_ fun i hi=>?_
 ·exact .oA [(4096,some 4096),(4100,some 4100),(1,none)] []
 refine sD ?_
 refine ⟨fun h3=>?_,fun h3=>?_⟩
 ·have hi2:i < q.dims.length:=by omega
  have hwi:=qr (i:=i) (by omega)
  have hts:(dmP s q).take (i + 1) = (dmP s q).take i ++ [⟨q.dims[i].col,jo s q.dims[i].col q.dims[i].lev⟩]:=by
   rw [qX (by omega)]
   simp only [dmP,List.getElem_map]
  have hLe:=Ye s hs q.dims[i].col q.dims[i].lev
  have htl:((dmP s q).take i).length≤3:=by rw [List.length_take];omega
  simp only [tZ,↓un_u,simprocAttr,Int.toNat_natCast,qg hi2]
  refine ⟨by omega,?_⟩
  refine C1.im hLe (by rfl) (by rfl) ?_
  simp only [tZ,↓un_u,simprocAttr,hwi]
  refine ⟨by omega,by kernel_rfl,i + 1,by omega,by omega,?_⟩
  rw [hts,List.map_append,List.length_append]
  exact .oA [(4096,some 4096),(4100,some 4100),(1,some 1)] []
 ·have hil:i = q.dims.length:=by omega
  subst hil
  rw [← hdl,List.take_length]
  refine qE mixm (α:=Nat) [5,39] (fun i=>i≤s.cols.length) (fun i=>[(5,.asl 1 (dmP s q ++ usP s q i).length),(39,vI i)]) (fun i=>[(4096,.arr 2 [schT s] false),(4100,.arr 17 [qstT q] false),(1,.arr 2 ((dmP s q ++ usP s q i).map pkT) false)]) (fun i=>s.cols.length - i) 0 (by omega) ?_ fun i hi=>?_
  ·rw [show usP s q 0 = [] from rfl,List.append_nil]
   exact .oA [(4096,some 4096),(4100,some 4100),(1,some 1)] []
  have hul:=jf4 s q i
  have hus:=qM8 s q i
  have hoL:(dmP s q ++ usP s q i).length≤1000000:=by rw [List.length_append];omega
  refine sD ?_
  refine ⟨fun h3=>?_,fun h3=>?_⟩
  ·have hi2:i < s.cols.length:=by omega
   have hwi:=qr (i:=i) (by omega)
   refine C1.im (Kj q i (by omega)) (by rfl) (by rfl) ?_
   refine sW ?_
   refine ⟨fun h4=>?_,fun h4=>?_⟩
   ·rw [if_pos h4] at hus
    refine C1.im (yg s hs i) (by rfl) (by rfl) ?_
    refine sW ?_
    refine C1.im (Ye s hs i (finI s i)) (by rfl) (by rfl) ?_
    simp only [tZ,↓un_u,simprocAttr,hwi]
    refine ⟨by omega,by kernel_rfl,i + 1,by omega,by omega,?_⟩
    rw [hus,← List.append_assoc,List.map_append,List.length_append (bs:=[_])]
    exact .oA [(4096,some 4096),(4100,some 4100),(1,some 1)] []
   ·rw [if_neg (by rw [h4];simp),List.append_nil] at hus
    simp only [tZ,↓un_u,simprocAttr,hwi]
    refine ⟨i + 1,by omega,by omega,?_⟩
    rw [hus]
    exact .oA [(4096,some 4096),(4100,some 4100),(1,some 1)] []
  ·have hil:i = s.cols.length:=by omega
   subst hil
   rw [qH1 h]
   unfold jD at hbd ⊢
   have hll:(dmP s q ++ usP s q s.cols.length).length = (dmP s q).length + (usP s q s.cols.length).length:=List.length_append
   generalize dmP s q ++ usP s q s.cols.length = own at hoL hbd hll ⊢
   refine W_le [(2,.ptr 4096 1 0 0),(3,.ptr 4100 1 0 0),(5,vPs own)] [(4096,.arr 2 [schT s] false),(4100,.arr 17 [qstT q] false)] ?_ ?_
   ·exact .oA [(4096,some 4096),(4100,some 4100)] [1]
   refine sW ?_
   refine C1.im (Jq q) (by rfl) (by rfl) ?_
   generalize cnsL q = L at hck hcl hbd ⊢
   refine sW ?_
   refine qE mixm (α:=Nat) [9,62] (fun i=>i≤L.length) (fun i=>[(9,.asl 65540 (i + 1)),(62,vI i)]) (fun i=>[(4096,.arr 2 [schT s] false),(65540,.arr 1 (vPs own :: (L.take i).map fun c=>vPs (jq s c)) false)]) (fun i=>L.length - i) 0 (by omega) ?_ fun i hi=>?_
   ·exact .oA [(4096,some 4096),(65540,some 65540)] []
   have htl:(L.take i).length = i:=by rw [List.length_take];omega
   refine sD ?_
   refine ⟨fun h3=>?_,fun h3=>?_⟩
   ·have hi2:i < L.length:=by omega
    have hwi:=qr (i:=i) (by omega)
    have hN:=qj8 s hs L[i]
    simp only [tZ,↓un_u,simprocAttr,Int.toNat_natCast,qg hi2,jP]
    refine ⟨by omega,?_⟩
    refine C1.im hN (by rfl) (by rfl) ?_
    simp only [tZ,↓un_u,simprocAttr,hwi]
    refine ⟨by omega,i + 1,by omega,by omega,?_⟩
    rw [qX hi2,List.map_append]
    exact .oA [(4096,some 4096),(65540,some 65540)] []
   ·have hil:i = L.length:=by omega
    subst hil
    rw [List.take_length]
    have hfl:(own :: L.map (jq s)).flatten = own ++ L.flatMap (jq s):=by rw [List.flatten_cons,List.flatMap_def]
    have hbb:∀ l∈own :: L.map (jq s),∀ p∈l,0≤p.col∧p.col < s.cols.length:=fun l hl p hp=>by
     have:=hbd p (by rw [← hfl];exact List.mem_flatten.2 ⟨l,hl,hp⟩)
     omega
    have hbl:∀ l∈own :: L.map (jq s),l.length≤1000:=fun l hl=>by
     rcases List.mem_cons.1 hl with e | hl
     ·rw [e];omega
     ·obtain ⟨c,_,rfl⟩:=List.mem_map.1 hl
      have:=qx1 s c
      omega
    have hM:=qk0 (own :: L.map (jq s)) s.cols.length (by omega) (by omega) (by rw [List.length_cons,List.length_map];omega) hbl hbb
    rw [hfl,List.map_cons,List.map_map] at hM
    refine C1.shut [65540] hM ?_ (by rfl) rfl ?_
    ·all_goals (try exact clA)
    refine sW ?_
    exact .oA [] []
theorem Zo (s:Sch) (hs:Jk s) (q:Qst) (l:List Pk) (hl:l.length < 4611686018427387904):Spc Tryz.prog jt [schT s,qstT q,vPs l] [] (vB (sufB s q l)) []:=by
 have hnl:=qX4 s q
 refine qe WH mixm (by simp) fun e _ hst=>qo ?_
 unfold kH
 refine sW ?_
 refine C1.im (jQ s hs q) (by rfl) (by rfl) ?_
 refine sW ?_
 refine C2.im (fun _=>qC3 s hs l hl) (fun _=>rfl) (by rfl) ?_
 refine sW ?_
 refine C2.im (fun _=>yJ s hs q) (fun _=>rfl) (by rfl) ?_
 refine sW ?_
 refine C2.im (fun _=>qf3 l (YL s q) hl (by omega)) (fun _=>rfl) (by rfl) ?_
 refine sW ?_
 rw [show (qstE s q == 0 && qw9 s l == 0 && covB (YL s q) l) = sufB s q l from rfl]
 exact .oA [] []
end Go.Proofs
namespace Go.Proofs
open Go Go.TL
set_option maxRecDepth 4000
set_option maxHeartbeats 8000000
end Go.Proofs
namespace Go.Proofs
open Go Go.TL
set_option maxRecDepth 4000
set_option maxHeartbeats 8000000
theorem DrS.meas3 {s:Sch} (h:DrS s):(ZT s 3).length≤3:=by
 obtain ⟨ms,hc,h1,h3⟩:=h.cs
 have key:∀ n,(JY s 3 n).length≤n - 2:=by
  have e0:(qd s 0).kind = 1:=by rcases hc with ⟨hc,_⟩ | ⟨hc,_⟩ <;> (rw [qd,hc];rfl)
  have e1:(qd s 1).kind = 2:=by rcases hc with ⟨hc,_⟩ | ⟨hc,_⟩ <;> (rw [qd,hc];rfl)
  intro n
  induction n with
  | zero=>simp [JY]
  | succ n ih=>
    rw [jI,List.length_append]
    by_cases k0:n = 0
    ·subst k0;rw [e0,if_neg (by decide),List.length_nil];omega
    ·by_cases k1:n = 1
     ·subst k1;rw [e1,if_neg (by decide),List.length_nil];omega
     ·split <;> simp <;> omega
 rcases hc with ⟨hc,hm⟩ | ⟨hc,hm⟩
 ·have:=key s.cols.length
  have hl:s.cols.length = ms.length + 2:=by rw [hc];rfl
  unfold ZT;omega
 ·have e2:(qd s 2).kind = 2:=by rw [qd,hc];rfl
  have k2:∀ n,3≤n→(JY s 3 n).length≤n - 3:=by
   intro n hn
   induction n with
   | zero=>omega
   | succ n ih=>
     by_cases k:n = 2
     ·subst k
      rw [jI,e2,if_neg (by decide),List.append_nil]
      have:=key 2;omega
     ·rw [jI,List.length_append]
      have:=ih (by omega)
      split <;> simp <;> omega
  have hl:s.cols.length = ms.length + 3:=by rw [hc];rfl
  have:=k2 s.cols.length (by omega)
  unfold ZT;omega
theorem zT2 {s:Sch} {m:Int} {ts:List Int} (h1:1≤ts.length) (h2:ts.length≤3) (h3:∀ v∈ts,isB s v 3 = true∧v≠m) (h4:ts.Nodup):yd s m ts = 0:=by
 rw [yd,if_neg (by omega)]
 refine qw8 fun i hi=>?_
 have hpi:ts.getD i 0 = ts[i]:=qj hi
 obtain ⟨a,b⟩:=h3 _ (List.getElem_mem hi)
 rw [qW9,hpi,if_neg (by rw [a];simp),if_neg]
 rintro (k | k)
 ·exact b k
 ·obtain ⟨j,hj,e⟩:=List.mem_take_iff_getElem.1 (List.contains_iff_mem.1 k)
  exact List.pairwise_iff_getElem.1 h4 j i (by omega) hi (by omega) e
theorem qf6 (s:Sch) (hd:DrS s) (m:Int) (l:List UInt8) (a:Nat) (hl:l.length≤400) (ha:a≤l.length) :
 ∃ r:List Int×Nat,((r.1.length≤3∧(0 < r.1.length→yd s m r.1 = 0))∧r.2≤l.length)∧Spc Tryz.prog wC [.ptr 0 1 0 0,schT s,vI m] [(0,oC l a)] (vIs r.1) [(0,oC l r.2)]:=by
 have hE:=hd.ok
 have hnc:=(qK hE).nc
 have hc:=yP s 3 (by omega)
 have hm:=fun v=>(Zj (s:=s) (kind:=3) (v:=v)).1
 have hnd:=qx3 s 3
 have hc3:=hd.meas3
 generalize ZT s 3 = L at hc hm hnd hc3
 refine jr Ys mixm (fun r:List Int×Nat=>vIs r.1) (fun r=>[(0,oC l r.2)]) (by simp) ?_
 unfold wj
 refine sW ?_
 refine XE.mp (fun _ _=>C1.im hc (by rfl) (by rfl)) ?_
 refine sW ?_
 refine XE.loopF mixm [7,14] (fun y:Nat×List Int×Nat=>y.1≤L.length∧y.2.1.Sublist (L.take y.1)∧(∀ v∈y.2.1,v≠m)∧y.2.2≤l.length) (fun y=>[(7,.asl 1 y.2.1.length),(14,vI y.1)]) (fun y=>[(0,oC l y.2.2),(4096,.arr 2 [schT s] false),(1,.arr 1 (y.2.1.map vI) false)]) (fun y=>L.length - y.1) (0,[],a) ⟨by simp,by simp,by simp,ha⟩ (fun e ⟨_,hst⟩=>?_) fun T' y hy ih=>?_
 ·exact .oA [(0,some 0),(4096,some 4096),(1,none)] []
 obtain ⟨i,ts,a1⟩:=y
 obtain ⟨y1,y2,y3,y4⟩:=hy
 dsimp only at y1 y2 y3 y4
 have hsl:=y2.length_le
 rw [List.length_take] at hsl
 simp only [tZ,↓un_u,simprocAttr,decide_eq_true_eq,decide_eq_false_iff_not]
 refine XE.brN (fun h4=>?_) (fun h4=>?_)
 ·have hi2:i < L.length:=by omega
  have hwi:=qr (i:=i) (by omega)
  have htk:=qX hi2
  have hsub:ts.Sublist (L.take (i + 1)):=by rw [htk];exact y2.trans (List.sublist_append_left _ _)
  have hsub2:(ts ++ [L[i]]).Sublist (L.take (i + 1)):=by rw [htk];exact y2.append (List.Sublist.refl _)
  have hgi:(L.map vI).getD i .junk = vI L[i]:=qg hi2
  obtain ⟨o,a2,ha2,sO⟩:=je5 l a1 2 hl y4 (by omega)
  generalize L[i] = v at hgi hsub2
  simp only [tZ,↓un_u,simprocAttr,Int.toNat_natCast,hgi]
  refine XE.sd (by omega) ?_
  by_cases hv:v = m
  ·have q:(v != m) = false:=bne_eq_false_iff_eq.2 hv
   simp only [tZ,↓un_u,simprocAttr,q]
   refine XE.mp (fun _ _=>C2.no (by simp)) ?_
   simp only [tZ,↓un_u,simprocAttr,hwi]
   refine XE.next ih (i + 1,ts,a1) ⟨by dsimp only;omega,hsub,y3,y4⟩ (by dsimp only;omega) fun e ⟨_,hst⟩=>?_
   exact .oA [(0,some 0),(4096,some 4096),(1,some 1)] []
  ·have q:(v != m) = true:=bne_iff_ne.2 hv
   have hin:∀ u∈ts ++ [v],u≠m:=fun u hu=>by
    rcases List.mem_append.1 hu with h | h
    ·exact y3 u h
    ·rw [List.mem_singleton.1 h];exact hv
   by_cases hts:ts.length = 0
   ·have q2:((ts.length:Int) == 0) = true:=beq_iff_eq.2 (by omega)
    simp only [tZ,↓un_u,simprocAttr,q,q2]
    refine XE.mp (fun _ _=>C2.no (by simp)) ?_
    simp only [tZ,↓un_u,simprocAttr,Int.toNat_natCast,hgi,hwi]
    refine XE.sd (by omega) (XE.sd (by omega) ?_)
    refine XE.next ih (i + 1,ts ++ [v],a1) ⟨by dsimp only;omega,hsub2,hin,y4⟩ (by dsimp only;omega) fun e ⟨_,hst⟩=>?_
    exact .oA [(0,some 0),(4096,some 4096),(1,some 1)] []
   ·have q2:((ts.length:Int) == 0) = false:=beq_eq_false_iff_ne.2 (by omega)
    simp only [tZ,↓un_u,simprocAttr,q,q2]
    refine XE.mp (fun _ _=>C2.one (by trivial)) ?_
    refine XE.mp (fun _ _=>C1.draw 0 l a1 _ sO rfl rfl rfl) ?_
    simp only [tZ,↓un_u,simprocAttr,Int.toNat_natCast,hgi,hwi]
    refine XE.brB (fun h5=>?_) (fun h5=>?_)
    ·refine XE.sd (by omega) (XE.sd (by omega) ?_)
     refine XE.next ih (i + 1,ts ++ [v],a2) ⟨by dsimp only;omega,hsub2,hin,ha2⟩ (by dsimp only;omega) fun e ⟨_,hst⟩=>?_
     exact .oA [(0,some 0),(4096,some 4096),(1,some 1)] []
    ·refine XE.next ih (i + 1,ts,a2) ⟨by dsimp only;omega,hsub,y3,ha2⟩ (by dsimp only;omega) fun e ⟨_,hst⟩=>?_
     exact .oA [(0,some 0),(4096,some 4096),(1,some 1)] []
 ·have hil:i = L.length:=by omega
  rw [hil,List.take_length] at y2
  refine XE.fin (ts,a1) ⟨⟨by dsimp only;omega,fun h=>zT2 h (by dsimp only;omega) (fun v hv=>⟨hm v (y2.subset hv),y3 v hv⟩) (hnd.sublist y2)⟩,y4⟩ fun e ⟨_,hst⟩=>?_
  exact .oA [(0,some 0)] [1]
end Go.Proofs
namespace Go.Proofs
open Go Go.TL
set_option maxRecDepth 4000
set_option maxHeartbeats 8000000
theorem jl0:YK cnd0 cnd0 = true:=by decide +kernel
theorem qp4 {s:Sch} {nm:ByteArray} {c:Cnd} {ds:List Pk} {m:Int} (hE:schE s = 0) (h1:kf nm = true) (h2:chkC s c = 0) (h3:ZS s ds = 0) (h4:m = -1∨isB s m 3 = true):qstE s ⟨nm,1,c,ds,m,[],cnd0⟩ = 0:=by
 have hp:kB s ⟨nm,1,c,ds,m,[],cnd0⟩ = 0:=by
  rw [kB,if_pos rfl,if_neg (by rw [h3];simp),if_neg]
  rintro ⟨a,b⟩
  rcases h4 with h | h
  ·exact a h
  ·rw [h] at b;cases b
 rw [qstE,if_neg (by rw [hE];simp),if_neg (by rw [h1];simp),if_neg (by simp),if_neg (by rw [h2];simp),if_neg (by rw [hp];simp),if_neg (by rw [jl0];simp)]
theorem zT3 {s:Sch} {nm:ByteArray} {c:Cnd} {ts:List Int} {m:Int} (hE:schE s = 0) (h1:kf nm = true) (h2:chkC s c = 0) (h3:yd s m ts = 0) (h4:isB s m 3 = true):qstE s ⟨nm,2,c,[],m,ts,cnd0⟩ = 0:=by
 have hp:kB s ⟨nm,2,c,[],m,ts,cnd0⟩ = 0:=by
  rw [kB,if_neg (by simp),if_pos rfl,if_neg (by rw [h4];simp)]
  exact h3
 rw [qstE,if_neg (by rw [hE];simp),if_neg (by rw [h1];simp),if_neg (by simp),if_neg (by rw [h2];simp),if_neg (by rw [hp];simp),if_neg (by rw [jl0];simp)]
theorem zT4 {s:Sch} {nm:ByteArray} {c d:Cnd} {m:Int} (hE:schE s = 0) (h1:kf nm = true) (h2:chkC s c = 0) (h3:chkC s d = 0) (h4:isB s m 3 = true) (h5:0≤(qd s m.toNat).low):qstE s ⟨nm,3,c,[],m,[],d⟩ = 0:=by
 have hp:kB s ⟨nm,3,c,[],m,[],d⟩ = 0:=by
  rw [kB,if_neg (by simp),if_neg (by simp),if_neg (by rw [h4];simp),if_neg (by dsimp only;omega)]
  exact h3
 rw [qstE,if_neg (by rw [hE];simp),if_neg (by rw [h1];simp),if_neg (by simp),if_neg (by rw [h2];simp),if_neg (by rw [hp];simp),if_neg (by simp)]
theorem CndOk.mono {s:Sch} {n m:Nat} {c:Cnd} (h:CndOk s n c) (hn:n≤m):CndOk s m c:=by
 have h1:=h.dep
 have h2:=h.siz
 have h3:2 ^ (n + 1)≤2 ^ (m + 1):=Nat.pow_le_pow_right (by omega) (by omega)
 exact ⟨h.ok,by omega,by omega⟩
theorem Kz (s:Sch) (hd:DrS s) (nm:ByteArray) (hnm:kf nm = true) (l:List UInt8) (a:Nat) (hl:l.length≤400) (ha:a≤l.length) :
 ∃ r:Qst×Nat,((qstE s r.1 = 0∧r.1.name = nm∧CndOk s 2 r.1.filt)∧r.2≤l.length)∧Spc Tryz.prog zt [.ptr 0 1 0 0,schT s,vS nm] [(0,oC l a)] (qstT r.1) [(0,oC l r.2)]:=by
 have hE:=hd.ok
 have hok:=qK hE
 have hnc:=hok.nc
 have hat:∀ i (h:i < s.cols.length),qd s i = s.cols[i]:=fun i h=>by rw [qd,qj h]
 obtain ⟨j,a1,j1,j2,ha1,sN⟩:=Zi l a 3 hl ha (by omega)
 obtain ⟨D,rfl⟩:=Int.eq_ofNat_of_zero_le j1
 obtain ⟨⟨c,a2⟩,⟨hc,ha2⟩,sC⟩:=Jn s hd l hl D a1 ha1 (by omega)
 dsimp only at hc ha2 sC
 have hcf:=hc.chk hE (by omega)
 have hcm:=hc.mono (m:=2) (by omega)
 obtain ⟨v,a3,hv,ha3,sV⟩:=yF s hd l a2 hl ha2
 obtain ⟨_,v2,v3⟩:=zA.1 hv
 rw [Int.toNat_natCast] at v3
 have hil:v < s.cols.length:=by omega
 obtain ⟨w,a4,w1,w2,ha4,sK⟩:=Zi l a3 4 hl ha3 (by omega)
 refine jr Km mixm (fun r:Qst×Nat=>qstT r.1) (fun r=>[(0,oC l r.2)]) (by simp) ?_
 unfold jK
 refine sW ?_
 refine XE.mp (fun _ _=>C1.draw 0 l a _ sN rfl rfl rfl) ?_
 refine sW ?_
 refine XE.mp (fun _ _=>C1.draw 0 l a1 _ sC rfl rfl rfl) ?_
 refine sW ?_
 refine XE.sd (by kernel_rfl) ?_
 refine XE.mp (fun _ _=>C1.draw 0 l a2 _ sV rfl rfl rfl) ?_
 refine sW ?_
 refine XE.mp (fun _ _=>C1.draw 0 l a3 _ sK rfl rfl rfl) ?_
 simp only [tZ,↓un_u,simprocAttr,beq_iff_eq,beq_eq_false_iff_ne]
 refine XE.brN (fun h1=>?_) (fun h1=>XE.brN (fun h2=>?_) (fun h2=>XE.brN (fun h3=>?_) (fun h3=>?_)))
 ·obtain ⟨⟨ds,b2⟩,⟨hds,hb2⟩,sQ⟩:=kz s hd l a4 hl ha4
  dsimp only at hds hb2 sQ
  refine XE.mp (fun _ _=>C1.draw 0 l a4 _ sQ rfl rfl rfl) ?_
  refine sW ?_
  refine XE.fin (⟨nm,1,c,ds,v,[],cnd0⟩,b2) ⟨⟨qp4 hE hnm hcf hds (.inr hv),rfl,hcm⟩,hb2⟩ fun e ⟨_,hst⟩=>?_
  exact .oA [(0,some 0)] []
 ·obtain ⟨⟨ts,a5⟩,⟨⟨ht1,ht2⟩,ha5⟩,sT⟩:=qf6 s hd v l a4 hl ha4
  dsimp only at ht1 ht2 ha5 sT
  refine XE.mp (fun _ _=>C1.draw 0 l a4 _ sT rfl rfl rfl) ?_
  simp only [tZ,↓un_u,simprocAttr,decide_eq_true_eq,decide_eq_false_iff_not]
  refine XE.brN (fun h3=>?_) (fun h3=>?_)
  ·refine XE.fin (⟨nm,2,c,[],v,ts,cnd0⟩,a5) ⟨⟨zT3 hE hnm hcf (ht2 (by omega)) hv,rfl,hcm⟩,ha5⟩ fun e ⟨_,hst⟩=>?_
   exact .oA [(0,some 0)] []
  ·obtain ⟨⟨ds,b2⟩,⟨hds,hb2⟩,sQ⟩:=kz s hd l a5 hl ha5
   dsimp only at hds hb2 sQ
   refine XE.mp (fun _ _=>C1.draw 0 l a5 _ sQ rfl rfl rfl) ?_
   refine sW ?_
   refine XE.fin (⟨nm,1,c,ds,-1,[],cnd0⟩,b2) ⟨⟨qp4 hE hnm hcf hds (.inl rfl),rfl,hcm⟩,hb2⟩ fun e ⟨_,hst⟩=>?_
   exact .oA [(0,some 0)] []
 ·simp only [tZ,↓un_u,simprocAttr,Int.toNat_natCast,qg hil,decide_eq_true_eq,decide_eq_false_iff_not]
  refine XE.sd (by omega) ?_
  refine XE.brN (fun h4=>?_) (fun h4=>?_)
  ·obtain ⟨⟨d,a5⟩,⟨hdc,ha5⟩,sE⟩:=Jn s hd l hl 1 a4 ha4 (by omega)
   dsimp only at hdc ha5 sE
   refine XE.mp (fun _ _=>C1.draw 0 l a4 _ sE rfl rfl rfl) ?_
   refine sW ?_
   refine XE.fin (⟨nm,3,c,[],v,[],d⟩,a5) ⟨⟨zT4 hE hnm hcf (hdc.chk hE (by omega)) hv (by rw [Int.toNat_natCast,hat v hil];omega),rfl,hcm⟩,ha5⟩ fun e ⟨_,hst⟩=>?_
   exact .oA [(0,some 0)] []
  ·obtain ⟨⟨ds,b2⟩,⟨hds,hb2⟩,sQ⟩:=kz s hd l a4 hl ha4
   dsimp only at hds hb2 sQ
   refine XE.mp (fun _ _=>C1.draw 0 l a4 _ sQ rfl rfl rfl) ?_
   refine sW ?_
   refine XE.fin (⟨nm,1,c,ds,-1,[],cnd0⟩,b2) ⟨⟨qp4 hE hnm hcf hds (.inl rfl),rfl,hcm⟩,hb2⟩ fun e ⟨_,hst⟩=>?_
   exact .oA [(0,some 0)] []
 ·obtain ⟨⟨ds,b2⟩,⟨hds,hb2⟩,sQ⟩:=kz s hd l a4 hl ha4
  dsimp only at hds hb2 sQ
  refine XE.mp (fun _ _=>C1.draw 0 l a4 _ sQ rfl rfl rfl) ?_
  refine sW ?_
  refine XE.fin (⟨nm,1,c,ds,-1,[],cnd0⟩,b2) ⟨⟨qp4 hE hnm hcf hds (.inl rfl),rfl,hcm⟩,hb2⟩ fun e ⟨_,hst⟩=>?_
  exact .oA [(0,some 0)] []
theorem Wr (s:Sch) (hd:DrS s) (nm:ByteArray) (hnm:kf nm = true) (l:List UInt8) (a:Nat) (hl:l.length≤400) (ha:a≤l.length) :
 ∃ r:Qst×Nat,((qstE s r.1 = 0∧r.1.name = nm)∧r.2≤l.length)∧Spc Tryz.prog zt [.ptr 0 1 0 0,schT s,vS nm] [(0,oC l a)] (qstT r.1) [(0,oC l r.2)]:=by
 obtain ⟨r,⟨⟨h1,h2,_⟩,h3⟩,h⟩:=Kz s hd nm hnm l a hl ha
 exact ⟨r,⟨⟨h1,h2⟩,h3⟩,h⟩
end Go.Proofs
namespace Go.Proofs
open Go Go.TL
set_option maxRecDepth 4000
set_option maxHeartbeats 8000000
theorem zo6 (f:Nat→Int):∀ n,((canF f n).Pairwise fun a b=>a.col < b.col)∧∀ p∈canF f n,p.col < n
 | 0=>⟨List.Pairwise.nil,by simp [canF]⟩
 | n + 1=>by
   obtain ⟨h1,h2⟩:=zo6 f n
   rw [canF]
   split
   ·refine ⟨List.pairwise_append.2 ⟨h1,by simp,fun p hp q hq=>?_⟩,fun p hp=>?_⟩
    ·rw [List.mem_singleton.1 hq];exact h2 p hp
    ·rcases List.mem_append.1 hp with hp | hp
     ·have:=h2 p hp;omega
     ·rw [List.mem_singleton.1 hp];dsimp only;omega
   ·rw [List.append_nil]
    exact ⟨h1,fun p hp=>by have:=h2 p hp;omega⟩
theorem zo7 {l:List Pk} {k F:Int} (hF:0≤F) (h:∀ p∈l,p.col = k→p.lev≤F):mxl l k≤F:=by
 induction l with
 | nil=>exact hF
 | cons p r ih=>
   have h1:=ih fun q hq=>h q (List.mem_cons_of_mem _ hq)
   rw [mxl]
   split
   ·rename_i e
    have:=h p (by simp) e
    omega
   ·exact h1
theorem Jt {s:Sch} {c lev:Int} (h:0≤lev) (h2:lev≤finI s c):jo s c lev≤lev∧0≤jo s c lev∧divB s c.toNat (jo s c lev).toNat lev.toNat = true∧∀ m:Nat,(m:Int) < jo s c lev→divB s c.toNat m lev.toNat = false:=by
 have h59:lev≤59∨schE s≠0:=by
  by_cases e:schE s = 0
  ·have:=YM (c:=c) e;exact .inl (by omega)
  ·exact .inr e
 have hE:schE s = 0:=(yE (s:=s) (c:=c) (by omega)).1
 have h59:=YM (c:=c) hE
 rw [jo,if_neg (by rw [Bool.not_eq_false,ye];omega)]
 obtain ⟨a,b,_,d⟩:=YJ (p:=fun n=>divB s c.toNat n lev.toNat) (N:=lev.toNat) (zn2 s _ _) 64 0 (by omega) (by omega)
 refine ⟨by omega,by omega,by rw [Int.toNat_natCast];exact a,fun m hm=>d m (by omega) (by omega)⟩
theorem qk1 {s:Sch} (hE:schE s = 0) {k:Nat} (h1:1≤k) (h2:k < s.cols.length):0≤finI s k:=by
 have hok:=qK hE
 have hkk:=qZ (hok.cs k h2)
 have h3:=hkk.2.2.1 h1
 refine (zJ7 hE (v:=k) ?_).2.2.1
 rcases (show (qd s k).kind = 2∨(qd s k).kind = 3 by omega) with h | h
 ·exact .inl (zA.2 ⟨by omega,by omega,by rw [Int.toNat_natCast];exact h⟩)
 ·exact .inr (zA.2 ⟨by omega,by omega,by rw [Int.toNat_natCast];exact h⟩)
theorem jf5 {s:Sch} {c:Cnd} (h:chkC s c = 0):∀ p∈atP s c,p.lev≤finI s p.col:=fun p hp=>by
 obtain ⟨hE,k2,k3,k4⟩:=Wj h
 obtain ⟨a,ha,rfl⟩:=List.mem_map.1 hp
 obtain ⟨hnd,hia⟩:=qG0 c k4 a ha
 exact (Wk hE hnd hia).1
theorem zK9 {s:Sch} {c:Cnd} (h:chkC s c = 0):∀ p∈jq s c,p.lev≤finI s p.col:=fun p hp=>by
 have hE:=(Wj h).1
 obtain ⟨h1,h2⟩:=Jr h
 rw [h1,qf2] at hp
 obtain ⟨k,k1,k2,rfl⟩:=hp
 have h0:1≤k:=by
  rcases Nat.eq_zero_or_pos k with e | e
  ·subst e
   rw [Kd fun q hq=>by have:=h2 q hq;omega] at k2
   omega
  ·exact e
 exact zo7 (qk1 hE h0 k1) fun p hp e=>by rw [← e];exact jf5 h p hp
theorem qY5 {s:Sch} {q:Qst} (hq:QstOk s q):∀ p∈jD s q,p.lev≤finI s p.col:=fun p hp=>by
 unfold jD at hp
 rcases List.mem_append.1 hp with hp | hp
 ·rcases List.mem_append.1 hp with hp | hp
  ·obtain ⟨d,hd,rfl⟩:=List.mem_map.1 hp
   obtain ⟨_,h1,h2,h3,h4⟩:=qp2 (qf5 hq d hd).1
   have:=Jt h3 h4
   dsimp only;omega
  ·obtain ⟨k,h1,h2,rfl⟩:=qM9.1 hp
   unfold usB at h2
   rw [Bool.and_eq_true,decide_eq_true_eq] at h2
   have h3:=qk1 hq.sch (k:=k) (by omega) h1
   have:=Jt h3 (Int.le_refl _)
   dsimp only;omega
 ·obtain ⟨c,hc,hp⟩:=List.mem_flatMap.1 hp
  exact zK9 (qY4 hq c hc) p hp
theorem zt3 {s:Sch} {q:Qst} {k a:Int}:yW s q k a a = false:=by
 have:WX s q k a a = false:=by
  unfold WX
  simp
 unfold yW
 rw [this,Bool.and_false]
theorem zt4 {s:Sch} {q:Qst} {k a b:Int}:yW s q k a b = yW s q k b a:=by
 have hb:∀ x y:Int,(x != y) = (y != x):=fun x y=>by rw [Bool.eq_iff_iff,bne_iff_ne,bne_iff_ne];exact ⟨fun h e=>h e.symm,fun h e=>h e.symm⟩
 have:WX s q k a b = WX s q k b a:=by
  unfold WX
  simp only [hb a b,hb (qh s k _ a) (qh s k _ b),hb (zr s _ a) (zr s _ b)]
 unfold yW
 rw [this]
 cases canB s k a <;> cases canB s k b <;> simp
end Go.Proofs
namespace Go.Proofs
open Go Go.TL
set_option maxRecDepth 4000
set_option maxHeartbeats 8000000
theorem zo8 {a w:Int}:(a.tmod w == 0) = true↔w ∣ a:=by rw [beq_iff_eq];exact ⟨Int.dvd_of_tmod_eq_zero,Int.tmod_eq_zero_of_dvd⟩
theorem qN0 {a w:Int} (hw:0 < w):qw a w = a / w:=by unfold qw;rw [Int.fdiv_eq_ediv_of_nonneg _ (by omega)]
theorem ja2 {w x a:Int} (hw:0 < w) (hd:w ∣ x):x≤a↔x≤qw a w * w:=by
 obtain ⟨t,rfl⟩:=hd
 have h:=yf (v:=a) hw
 rw [qN0 hw] at h ⊢
 generalize a / w = u at h ⊢
 constructor
 ·intro h1
  have h2:w * t < w * (u + 1):=by rw [Int.mul_add,Int.mul_one,Int.mul_comm w u];omega
  have h3:=Int.lt_of_mul_lt_mul_left h2 (by omega)
  rw [Int.mul_comm u w]
  exact Int.mul_le_mul_of_nonneg_left (by omega) (by omega)
 ·intro h1;omega
theorem zd6 {w x a b:Int} (hw:0 < w) (hd:w ∣ x) (h:qw a w * w = qw b w * w):x≤a↔x≤b:=(ja2 hw hd).trans (by rw [h];exact (ja2 hw hd).symm)
theorem zd7 {w x:Int} (hw:0 < w) (h:¬ w ∣ x):qw (x - 1) w * w = qw x w * w:=by
 have:=(zd3 (a:=x - 1) (k:=w) (by omega)).2
 rw [show x - 1 + 1 = x by omega] at this
 rw [this h]
theorem jf6 {w x:Int} (hw:0 < w) (hd:w ∣ x):qw x w * w = x:=by
 rw [qN0 hw]
 exact Int.ediv_mul_cancel hd
theorem jf7 {w x:Int} (hw:0 < w) (hd:w ∣ x):qw (x - 1) w * w≠qw x w * w:=by
 rw [jf6 hw hd]
 have:=yf (v:=x - 1) hw
 omega
theorem jp {s:Sch} {i:Nat} (h1:(qd s i).kind = 3) {v:Int}:qH s i v = true↔((qd s i).opt = true∧v = zj)∨((qd s i).low≤v∧v≤(qd s i).high):=by
 rw [qH,if_neg (by omega),if_neg (by omega),Bool.or_eq_true,Bool.and_eq_true,beq_iff_eq,ye]
theorem jG {s:Sch} (hok:SchOk s) {i:Nat} (hi:i < s.cols.length) (h2:(qd s i).kind = 2) {v:Int}:qH s i v = true↔v∈qz s i:=by
 obtain ⟨_,d2⟩:=hok.cdl hi h2
 constructor
 ·intro h
  rw [qH,if_neg (by omega),if_pos h2,Bool.and_eq_true,ye,beq_iff_eq] at h
  obtain ⟨⟨g1,g2⟩,g3⟩:=h
  obtain ⟨c,rfl⟩:=Int.eq_ofNat_of_zero_le g1
  rw [lvlC,if_neg (not_or.2 ⟨fun h=>h d2,by omega⟩),Int.toNat_natCast] at g3
  exact (yG hok hi h2).2 ⟨c,rfl,by omega,g3⟩
 ·intro h;exact QG h2 d2 h
structure MeasC (s:Sch) (i:Nat):Prop where
 kind:(qd s i).kind = 3
 fin:finI s i = (qd s i).widths.length
 wid:∀ l:Nat,1≤l→l≤(qd s i).widths.length→1≤qy (qd s i) l
 one:qy (qd s i) (qd s i).widths.length = 1
 lh : -1000000≤(qd s i).low∧(qd s i).low≤(qd s i).high∧(qd s i).high≤1000000
 nw:1≤(qd s i).widths.length
 dv:∀ {o l:Nat},1≤o→o < l→l≤(qd s i).widths.length→∃ k:Int,2≤k∧qy (qd s i) o = k * qy (qd s i) l
theorem kY {s:Sch} (hE:schE s = 0) {i:Nat} (hi:i < s.cols.length) (h0:0 < i) (h2:(qd s i).kind≠2):MeasC s i:=by
 have hok:=qK hE
 have hkk:=qZ (hok.cs i hi)
 have h3:(qd s i).kind = 3:=by have:=hkk.2.2.1 h0;omega
 have hm:=hkk.2.2.2.2 h3
 have hwl:1≤(qd s i).widths.length:=by unfold measE at hm;grind
 obtain ⟨_,_,_,_,w5,w6,w7,w8⟩:=hok.wid hi h0 h2 (lev:=(qd s i).widths.length) (by omega)
 refine ⟨h3,by rw [finI,if_neg (by rw [hE];omega),Int.toNat_natCast,if_neg h2],fun l l1 l2=>(hok.wid hi h0 h2 (lev:=l) (by omega)).1,w8,⟨w5,w7,w6⟩,hwl,fun {o l} h4 h5 h6=>hok.wdv hi h0 h2 ⟨h4,h5⟩ h6⟩
theorem qN1 {s:Sch} {i:Nat} (h:MeasC s i) {lev:Nat} (hl:(lev:Int)≤finI s i) {v:Int} (hv:qH s i v = true):qh s i lev v = if lev = 0 then 0 else if v = zj then v else qw v (qy (qd s i) lev) * qy (qd s i) lev:=by
 have h1:=h.lh
 have hm:v≠zj→inB v (-1000000) 1000000 = true:=fun hn=>by
  rcases (jp h.kind).1 hv with k | k
  ·exact absurd k.2 hn
  ·exact ye.2 (by omega)
 rw [qh,if_neg (by rw [Bool.not_eq_false,ye];omega),Int.toNat_natCast,if_neg (by rw [h.kind];decide),if_neg (fun k=>by rw [hm k.1] at k;simp at k)]
 by_cases e:lev = 0
 ·subst e;rfl
 ·rw [if_neg (by omega),if_neg e]
theorem jl1 {v w:Int} (hw:1≤w) (hw2:w≤1000000) (hv : -1000000≤v):qw v w * w≠zj:=by
 have:=yf (v:=v) (w:=w) (by omega)
 unfold zj
 omega
theorem jl2 {s:Sch} (hE:schE s = 0) {i:Nat} (hi:i < s.cols.length) (h0:0 < i) (h2:(qd s i).kind≠2) {l:Nat} (l1:1≤l) (l2:l≤(qd s i).widths.length):qy (qd s i) l≤1000000:=((qK hE).wid hi h0 h2 (lev:=l) (by omega)).2.1
theorem ZX {s:Sch} (hE:schE s = 0) {i:Nat} (hi:i < s.cols.length) (h0:0 < i) (h2:(qd s i).kind≠2) {lev:Nat} (h1:1≤lev) (hl:(lev:Int)≤finI s i) {a b:Int} (ha:qH s i a = true) (hb:qH s i b = true) :
 qh s i lev a = qh s i lev b↔(a = zj∧b = zj)∨(a≠zj∧b≠zj∧qw a (qy (qd s i) lev) * qy (qd s i) lev = qw b (qy (qd s i) lev) * qy (qd s i) lev):=by
 have hm:=kY hE hi h0 h2
 have hlh:=hm.lh
 have hf:=hm.fin
 have hw:=hm.wid lev h1 (by omega)
 have hw2:=jl2 hE hi h0 h2 h1 (by omega)
 rw [qN1 hm hl ha,qN1 hm hl hb,if_neg (show ¬ lev = 0 by omega),if_neg (show ¬ lev = 0 by omega)]
 have na:a≠zj→-1000000≤a:=fun hn=>by
  rcases (jp hm.kind).1 ha with k | k
  ·exact absurd k.2 hn
  ·omega
 have nb:b≠zj→-1000000≤b:=fun hn=>by
  rcases (jp hm.kind).1 hb with k | k
  ·exact absurd k.2 hn
  ·omega
 by_cases ea:a = zj
 ·by_cases eb:b = zj
  ·rw [if_pos ea,if_pos eb];simp [ea,eb]
  ·rw [if_pos ea,if_neg eb]
   have:=jl1 hw hw2 (nb eb)
   constructor
   ·intro h;rw [ea] at h;exact absurd h.symm this
   ·rintro (h | h)
    ·exact absurd h.2 eb
    ·exact absurd ea h.1
 ·by_cases eb:b = zj
  ·rw [if_neg ea,if_pos eb]
   have:=jl1 hw hw2 (na ea)
   constructor
   ·intro h;rw [eb] at h;exact absurd h this
   ·rintro (h | h)
    ·exact absurd h.1 ea
    ·exact absurd eb h.2.1
  ·rw [if_neg ea,if_neg eb]
   constructor
   ·intro h;exact .inr ⟨ea,eb,h⟩
   ·rintro (h | h)
    ·exact absurd h.1 ea
    ·exact h.2.2
theorem qN2 {s:Sch} (hE:schE s = 0) {i:Nat} (hi:i < s.cols.length) (h0:0 < i) (h2:(qd s i).kind≠2) {a:Int} (ha:qH s i a = true):qh s i 0 a = 0:=by
 have hm:=kY hE hi h0 h2
 have:=qN1 hm (lev:=0) (by rw [hm.fin];omega) ha
 rw [if_pos rfl] at this
 exact this
theorem zL0 {s:Sch} (hE:schE s = 0) {i:Nat} (hi:i < s.cols.length) (h0:0 < i) (h2:(qd s i).kind = 2) {lev:Nat} (hl:(lev:Int)≤finI s i) {a:Int} (ha:qH s i a = true):∃ c:Nat,a = c∧c < (qJ s i).codes.length∧(dep (qJ s i).codes c:Int) = zk (qJ s i) - 1∧qh s i lev a = upN (qJ s i).codes lev c:=by
 have hok:=qK hE
 obtain ⟨c,rfl,c1,c2⟩:=(yG hok hi h2).1 ((jG hok hi h2).1 ha)
 have hf:finI s i = zk (qJ s i) - 1:=by rw [finI,if_neg (by rw [hE];omega),Int.toNat_natCast,if_pos h2]
 exact ⟨c,rfl,c1,c2,kg hok hi h2 c1 c2 hl hf⟩
theorem jf8 {s:Sch} (hE:schE s = 0) {i:Nat} (hi:i < s.cols.length) (h0:0 < i) {o lev:Nat} (ho:o≤lev) (hl:(lev:Int)≤finI s i) {a b:Int} (ha:qH s i a = true) (hb:qH s i b = true) (h:qh s i lev a = qh s i lev b):qh s i o a = qh s i o b:=by
 by_cases h2:(qd s i).kind = 2
 ·have hok:=qK hE
  obtain ⟨_,d2⟩:=hok.cdl hi h2
  obtain ⟨hp,_,_⟩:=ze d2
  have hf:finI s i = zk (qJ s i) - 1:=by rw [finI,if_neg (by rw [hE];omega),Int.toNat_natCast,if_pos h2]
  obtain ⟨c,rfl,c1,c2,c3⟩:=zL0 hE hi h0 h2 hl ha
  obtain ⟨d,rfl,e1,e2,e3⟩:=zL0 hE hi h0 h2 hl hb
  rw [kg hok hi h2 c1 c2 (by omega) hf,kg hok hi h2 e1 e2 (by omega) hf]
  rw [c3,e3] at h
  rw [← qx6 hp ho c c1 (by omega),← qx6 hp ho d e1 (by omega),show upN (qJ s i).codes lev c = upN (qJ s i).codes lev d by omega]
 ·by_cases e0:o = 0
  ·subst e0
   have za:=qN2 hE hi h0 h2 ha
   have zb:=qN2 hE hi h0 h2 hb
   show qh s i 0 a = qh s i 0 b
   rw [za,zb]
  ·by_cases e1:o = lev
   ·rw [e1];exact h
   have hm:=kY hE hi h0 h2
   have hf:=hm.fin
   obtain ⟨k,k1,k2⟩:=hm.dv (o:=o) (l:=lev) (by omega) (by omega) (by omega)
   rw [ZX hE hi h0 h2 (by omega) (by omega) ha hb]
   rcases (ZX hE hi h0 h2 (by omega) hl ha hb).1 h with h | ⟨h3,h4,h5⟩
   ·exact .inl h
   ·refine .inr ⟨h3,h4,?_⟩
    have hw:=hm.wid lev (by omega) (by omega)
    have:=Int.eq_of_mul_eq_mul_right (by omega) h5
    rw [k2,zS7 hw (by omega),zS7 hw (by omega),this]
theorem zo9 {s:Sch} (hE:schE s = 0) {i:Nat} (hi:i < s.cols.length) (h0:0 < i) {a:Int} (ha:qH s i a = true):qh s i (finI s i) a = a:=by
 by_cases h2:(qd s i).kind = 2
 ·exact JX hE h0 hi h2 ((jG (qK hE) hi h2).1 ha)
 ·have hm:=kY hE hi h0 h2
  have hn:=hm.nw
  have:=qN1 hm (lev:=(qd s i).widths.length) (by rw [hm.fin];omega) ha
  rw [hm.fin,this,if_neg (by omega),hm.one]
  split
  ·rfl
  ·unfold qw;simp
end Go.Proofs
