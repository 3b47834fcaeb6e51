/- A part of the proof: trees of Go values, short forms, contracts. -/
import Derived.WalkKit
import Derived.Still
import Derived.MapKept
import GoSem.Builtin.Cap
import Derived.Laws.Externs
import GoSem.Extern.SlicesOverlaps
import Derived.Carry
import Derived.ProofKit
import Derived.OpenShut
import Derived.HandedShaped
import Derived.Lay
import Derived.LaidLaws
import Derived.MakeChecks
import Derived.SevenTiedAt
import Derived.Test.YtpmgddadeedmbaaGreatDoorChecked
import Derived.Test.YtpmgddadeedmbaaGreatDoorK20
set_option linter.unusedSimpArgs false
set_option linter.unusedVariables false
namespace Go.Proofs
open Go Go.TL
set_option maxRecDepth 4000
set_option maxHeartbeats 8000000
theorem qD2 {s:Sch} {l:List Pk} (hE:schE s = 0) (h1:∀ p∈l,Qu s p = 0) (h2:l.Pairwise fun a b=>a.col < b.col):yC s l = 0:=by
 rw [yC,if_neg (by rw [hE];simp)]
 refine JM fun i hi=>?_
 have hp:pkAt l i = l[i]:=by rw [pkAt,qh hi]
 rw [qK3,hp,if_neg (by rw [h1 _ (List.getElem_mem hi)];simp),if_neg]
 rintro ⟨h3,h4⟩
 rw [pkAt,qh (by omega)] at h4
 have:=List.pairwise_iff_getElem.1 h2 (i - 1) i (by omega) hi (by omega)
 omega
theorem qk5 (s:Sch) (hd:DrS s) (l:List UInt8) (a:Nat) (hl:l.length≤400) (ha:a≤l.length) :
 ∃ r:List Pk×Nat,((yC s r.1 = 0∧r.1.length≤8)∧r.2≤l.length)∧Spc Tryz.prog wR [.ptr 0 1 0 0,schT s] [(0,oC l a)] (vPs r.1) [(0,oC l r.2)]:=by
 have hE:=hd.ok
 have hok:=qW hE
 have hnc:=hok.nc
 refine zV qa6 mixm (fun r:List Pk×Nat=>vPs r.1) (fun r=>[(0,oC l r.2)]) (by simp) ?_
 unfold wx
 refine sW ?_
 refine XE.loopF mixm [5,6] (fun y:Nat×List Pk×Nat=>1≤y.1∧y.1≤s.cols.length∧y.2.1.length < y.1∧(∀ p∈y.2.1,Qu s p = 0∧p.col < y.1)∧y.2.1.Pairwise (fun a b=>a.col < b.col)∧y.2.2≤l.length) (fun y=>[(5,.asl 1 y.2.1.length),(6,vI y.1)]) (fun y=>[(0,oC l y.2.2),(4096,.arr 2 [schT s] false),(1,.arr 2 (y.2.1.map pkT) false)]) (fun y=>s.cols.length - y.1) (1,[],a) ⟨by simp,by dsimp only;omega,by simp,by simp,List.Pairwise.nil,ha⟩ (fun e ⟨_,hst⟩=>?_) fun T' y hy ih=>?_
 ·exact .oA [(0,some 0),(4096,some 4096),(1,none)] []
 obtain ⟨i,ps,a1⟩:=y
 obtain ⟨y1,y2,y3,y4,y5,y6⟩:=hy
 dsimp only at y1 y2 y3 y4 y5 y6
 simp only [tZ,↓un_u,simprocAttr,decide_eq_true_eq,decide_eq_false_iff_not]
 refine XE.brN (fun h4=>?_) (fun h4=>?_)
 ·have hi2:i < s.cols.length:=by omega
  have hwi:=qj (i:=i) (by omega)
  obtain ⟨v,a2,v1,v2,ha2,sN⟩:=yx l a1 4 hl y6 (by omega)
  refine XE.mp (fun _ _=>C1.draw 0 l a1 _ sN rfl rfl rfl) ?_
  simp only [tZ,↓un_u,simprocAttr,gt_iff_lt,decide_eq_true_eq,decide_eq_false_iff_not]
  refine XE.brN (fun h5=>?_) (fun h5=>?_)
  ·have hkk:=ze (hok.cs i hi2)
   obtain ⟨f1,f2⟩:0≤finI s i∧finI s i≤59:=by
    have h23:=hkk.2.2.1 y1
    refine (zf2 hE (v:=i) ?_).2.2
    rcases (show (qg s i).kind = 2∨(qg s i).kind = 3 by omega) with h | h
    ·exact .inl (jd.2 ⟨by omega,by omega,by rw [Int.toNat_natCast];exact h⟩)
    ·exact .inr (jd.2 ⟨by omega,by omega,by rw [Int.toNat_natCast];exact h⟩)
   have hFin:=YP s hok.sm i
   obtain ⟨w,a3,w1,w2,ha3,sQ⟩:=yx l a2 (finI s i + 1) hl ha2 (by omega)
   have hwf:IntKind.i64.wrap (finI s i + 1) = finI s i + 1:=IntWalk.i64_in _ (by omega)
   refine XE.mp (fun _ _=>C1.im hFin (by rfl) (by rfl)) ?_
   simp only [tZ,↓un_u,simprocAttr,hwf]
   refine XE.mp (fun _ _=>C1.draw 0 l a2 _ sQ rfl rfl rfl) ?_
   simp only [tZ,↓un_u,simprocAttr,hwi]
   refine XE.sd (by omega) ?_
   refine XE.next ih (i + 1,ps ++ [⟨i,w⟩],a3) ⟨by dsimp only;omega,by dsimp only;omega,by rw [List.length_append];simp;omega,fun p hp=>?_,?_,ha3⟩ (by dsimp only;omega) fun e ⟨_,hst⟩=>?_
   ·dsimp only at hp ⊢
    rcases List.mem_append.1 hp with hp | hp
    ·have:=y4 p hp
     exact ⟨this.1,by omega⟩
    ·rw [List.mem_singleton.1 hp]
     refine ⟨?_,by dsimp only;omega⟩
     rw [Qu,if_neg (by rw [hE];simp),if_neg (by dsimp only;omega),if_neg]
     rw [Bool.not_eq_false,ZX]
     dsimp only;omega
   ·dsimp only
    rw [List.pairwise_append]
    refine ⟨y5,by simp,fun p hp q hq=>?_⟩
    rw [List.mem_singleton.1 hq]
    exact (y4 p hp).2
   ·exact .oA [(0,some 0),(4096,some 4096),(1,some 1)] []
  ·simp only [tZ,↓un_u,simprocAttr,hwi]
   refine XE.next ih (i + 1,ps,a2) ⟨by dsimp only;omega,by dsimp only;omega,by dsimp only;omega,fun p hp=>?_,y5,ha2⟩ (by dsimp only;omega) fun e ⟨_,hst⟩=>?_
   ·have:=y4 p hp
    exact ⟨this.1,by dsimp only;omega⟩
   ·exact .oA [(0,some 0),(4096,some 4096),(1,some 1)] []
 ·refine XE.fin (ps,a1) ⟨⟨qD2 hE (fun p hp=>(y4 p hp).1) y5,by dsimp only;omega⟩,y6⟩ fun e ⟨_,hst⟩=>?_
  exact .oA [(0,some 0)] [1]
end Go.Proofs
namespace Go.Proofs
open Go Go.TL
set_option maxRecDepth 4000
set_option maxHeartbeats 8000000
theorem DrS.meas3 {s:Sch} (h:DrS s):(Ju s 3).length≤3:=by
 obtain ⟨ms,hc,h1,h3⟩:=h.cs
 have key:∀ n,(Kw s 3 n).length≤n - 2:=by
  have e0:(qg s 0).kind = 1:=by rcases hc with ⟨hc,_⟩ | ⟨hc,_⟩ <;> (rw [qg,hc];rfl)
  have e1:(qg s 1).kind = 2:=by rcases hc with ⟨hc,_⟩ | ⟨hc,_⟩ <;> (rw [qg,hc];rfl)
  intro n
  induction n with
  | zero=>simp [Kw]
  | succ n ih=>
    rw [jR,List.length_append]
    by_cases k0:n = 0
    ·subst k0;rw [e0,if_neg (by decide),List.length_nil];omega
    ·by_cases k1:n = 1
     ·subst k1;rw [e1,if_neg (by decide),List.length_nil];omega
     ·split <;> simp <;> omega
 rcases hc with ⟨hc,hm⟩ | ⟨hc,hm⟩
 ·have:=key s.cols.length
  have hl:s.cols.length = ms.length + 2:=by rw [hc];rfl
  unfold Ju;omega
 ·have e2:(qg s 2).kind = 2:=by rw [qg,hc];rfl
  have k2:∀ n,3≤n→(Kw s 3 n).length≤n - 3:=by
   intro n hn
   induction n with
   | zero=>omega
   | succ n ih=>
     by_cases k:n = 2
     ·subst k
      rw [jR,e2,if_neg (by decide),List.append_nil]
      have:=key 2;omega
     ·rw [jR,List.length_append]
      have:=ih (by omega)
      split <;> simp <;> omega
  have hl:s.cols.length = ms.length + 3:=by rw [hc];rfl
  have:=k2 s.cols.length (by omega)
  unfold Ju;omega
theorem zV1 {s:Sch} {m:Int} {ts:List Int} (h1:1≤ts.length) (h2:ts.length≤3) (h3:∀ v∈ts,isB s v 3 = true∧v≠m) (h4:ts.Nodup):yD s m ts = 0:=by
 rw [yD,if_neg (by omega)]
 refine JM fun i hi=>?_
 have hpi:ts.getD i 0 = ts[i]:=qh hi
 obtain ⟨a,b⟩:=h3 _ (List.getElem_mem hi)
 rw [qZ4,hpi,if_neg (by rw [a];simp),if_neg]
 rintro (k | k)
 ·exact b k
 ·obtain ⟨j,hj,e⟩:=List.mem_take_iff_getElem.1 (List.contains_iff_mem.1 k)
  exact List.pairwise_iff_getElem.1 h4 j i (by omega) hi (by omega) e
theorem qk6 (s:Sch) (hd:DrS s) (m:Int) (l:List UInt8) (a:Nat) (hl:l.length≤400) (ha:a≤l.length) :
 ∃ r:List Int×Nat,((r.1.length≤3∧(0 < r.1.length→yD s m r.1 = 0))∧r.2≤l.length)∧Spc Tryz.prog wV [.ptr 0 1 0 0,schT s,vI m] [(0,oC l a)] (vIs r.1) [(0,oC l r.2)]:=by
 have hE:=hd.ok
 have hnc:=(qW hE).nc
 have hc:=Qn s 3 (by omega)
 have hm:=fun v=>(ZJ (s:=s) (kind:=3) (v:=v)).1
 have hnd:=qC7 s 3
 have hc3:=hd.meas3
 generalize Ju s 3 = L at hc hm hnd hc3
 refine zV qb5 mixm (fun r:List Int×Nat=>vIs r.1) (fun r=>[(0,oC l r.2)]) (by simp) ?_
 unfold wB
 refine sW ?_
 refine XE.mp (fun _ _=>C1.im hc (by rfl) (by rfl)) ?_
 refine sW ?_
 refine XE.loopF mixm [7,14] (fun y:Nat×List Int×Nat=>y.1≤L.length∧y.2.1.Sublist (L.take y.1)∧(∀ v∈y.2.1,v≠m)∧y.2.2≤l.length) (fun y=>[(7,.asl 1 y.2.1.length),(14,vI y.1)]) (fun y=>[(0,oC l y.2.2),(4096,.arr 2 [schT s] false),(1,.arr 1 (y.2.1.map vI) false)]) (fun y=>L.length - y.1) (0,[],a) ⟨by simp,by simp,by simp,ha⟩ (fun e ⟨_,hst⟩=>?_) fun T' y hy ih=>?_
 ·exact .oA [(0,some 0),(4096,some 4096),(1,none)] []
 obtain ⟨i,ts,a1⟩:=y
 obtain ⟨y1,y2,y3,y4⟩:=hy
 dsimp only at y1 y2 y3 y4
 have hsl:=y2.length_le
 rw [List.length_take] at hsl
 simp only [tZ,↓un_u,simprocAttr,decide_eq_true_eq,decide_eq_false_iff_not]
 refine XE.brN (fun h4=>?_) (fun h4=>?_)
 ·have hi2:i < L.length:=by omega
  have hwi:=qj (i:=i) (by omega)
  have htk:=zc hi2
  have hsub:ts.Sublist (L.take (i + 1)):=by rw [htk];exact y2.trans (List.sublist_append_left _ _)
  have hsub2:(ts ++ [L[i]]).Sublist (L.take (i + 1)):=by rw [htk];exact y2.append (List.Sublist.refl _)
  have hgi:(L.map vI).getD i .junk = vI L[i]:=qe hi2
  obtain ⟨o,a2,ha2,sO⟩:=zT8 l a1 2 hl y4 (by omega)
  generalize L[i] = v at hgi hsub2
  simp only [tZ,↓un_u,simprocAttr,Int.toNat_natCast,hgi]
  refine XE.sd (by omega) ?_
  by_cases hv:v = m
  ·have q:(v != m) = false:=bne_eq_false_iff_eq.2 hv
   simp only [tZ,↓un_u,simprocAttr,q]
   refine XE.mp (fun _ _=>C2.no (by simp)) ?_
   simp only [tZ,↓un_u,simprocAttr,hwi]
   refine XE.next ih (i + 1,ts,a1) ⟨by dsimp only;omega,hsub,y3,y4⟩ (by dsimp only;omega) fun e ⟨_,hst⟩=>?_
   exact .oA [(0,some 0),(4096,some 4096),(1,some 1)] []
  ·have q:(v != m) = true:=bne_iff_ne.2 hv
   have hin:∀ u∈ts ++ [v],u≠m:=fun u hu=>by
    rcases List.mem_append.1 hu with h | h
    ·exact y3 u h
    ·rw [List.mem_singleton.1 h];exact hv
   by_cases hts:ts.length = 0
   ·have q2:((ts.length:Int) == 0) = true:=beq_iff_eq.2 (by omega)
    simp only [tZ,↓un_u,simprocAttr,q,q2]
    refine XE.mp (fun _ _=>C2.no (by simp)) ?_
    simp only [tZ,↓un_u,simprocAttr,Int.toNat_natCast,hgi,hwi]
    refine XE.sd (by omega) (XE.sd (by omega) ?_)
    refine XE.next ih (i + 1,ts ++ [v],a1) ⟨by dsimp only;omega,hsub2,hin,y4⟩ (by dsimp only;omega) fun e ⟨_,hst⟩=>?_
    exact .oA [(0,some 0),(4096,some 4096),(1,some 1)] []
   ·have q2:((ts.length:Int) == 0) = false:=beq_eq_false_iff_ne.2 (by omega)
    simp only [tZ,↓un_u,simprocAttr,q,q2]
    refine XE.mp (fun _ _=>C2.one (by trivial)) ?_
    refine XE.mp (fun _ _=>C1.draw 0 l a1 _ sO rfl rfl rfl) ?_
    simp only [tZ,↓un_u,simprocAttr,Int.toNat_natCast,hgi,hwi]
    refine XE.brB (fun h5=>?_) (fun h5=>?_)
    ·refine XE.sd (by omega) (XE.sd (by omega) ?_)
     refine XE.next ih (i + 1,ts ++ [v],a2) ⟨by dsimp only;omega,hsub2,hin,ha2⟩ (by dsimp only;omega) fun e ⟨_,hst⟩=>?_
     exact .oA [(0,some 0),(4096,some 4096),(1,some 1)] []
    ·refine XE.next ih (i + 1,ts,a2) ⟨by dsimp only;omega,hsub,y3,ha2⟩ (by dsimp only;omega) fun e ⟨_,hst⟩=>?_
     exact .oA [(0,some 0),(4096,some 4096),(1,some 1)] []
 ·have hil:i = L.length:=by omega
  rw [hil,List.take_length] at y2
  refine XE.fin (ts,a1) ⟨⟨by dsimp only;omega,fun h=>zV1 h (by dsimp only;omega) (fun v hv=>⟨hm v (y2.subset hv),y3 v hv⟩) (hnd.sublist y2)⟩,y4⟩ fun e ⟨_,hst⟩=>?_
  exact .oA [(0,some 0)] [1]
end Go.Proofs
namespace Go.Proofs
open Go Go.TL
set_option maxRecDepth 4000
set_option maxHeartbeats 8000000
theorem jm1:qc8 cnd0 cnd0 = true:=by decide +kernel
theorem qu7 {s:Sch} {nm:ByteArray} {c:Cnd} {ds:List Pk} {m:Int} (hE:schE s = 0) (h1:jb nm = true) (h2:chkC s c = 0) (h3:JN s ds = 0) (h4:m = -1∨isB s m 3 = true):qstE s ⟨nm,1,c,ds,m,[],cnd0⟩ = 0:=by
 have hp:yv s ⟨nm,1,c,ds,m,[],cnd0⟩ = 0:=by
  rw [yv,if_pos rfl,if_neg (by rw [h3];simp),if_neg]
  rintro ⟨a,b⟩
  rcases h4 with h | h
  ·exact a h
  ·rw [h] at b;cases b
 rw [qstE,if_neg (by rw [hE];simp),if_neg (by rw [h1];simp),if_neg (by simp),if_neg (by rw [h2];simp),if_neg (by rw [hp];simp),if_neg (by rw [jm1];simp)]
theorem zV2 {s:Sch} {nm:ByteArray} {c:Cnd} {ts:List Int} {m:Int} (hE:schE s = 0) (h1:jb nm = true) (h2:chkC s c = 0) (h3:yD s m ts = 0) (h4:isB s m 3 = true):qstE s ⟨nm,2,c,[],m,ts,cnd0⟩ = 0:=by
 have hp:yv s ⟨nm,2,c,[],m,ts,cnd0⟩ = 0:=by
  rw [yv,if_neg (by simp),if_pos rfl,if_neg (by rw [h4];simp)]
  exact h3
 rw [qstE,if_neg (by rw [hE];simp),if_neg (by rw [h1];simp),if_neg (by simp),if_neg (by rw [h2];simp),if_neg (by rw [hp];simp),if_neg (by rw [jm1];simp)]
theorem zV3 {s:Sch} {nm:ByteArray} {c d:Cnd} {m:Int} (hE:schE s = 0) (h1:jb nm = true) (h2:chkC s c = 0) (h3:chkC s d = 0) (h4:isB s m 3 = true) (h5:0≤(qg s m.toNat).low):qstE s ⟨nm,3,c,[],m,[],d⟩ = 0:=by
 have hp:yv s ⟨nm,3,c,[],m,[],d⟩ = 0:=by
  rw [yv,if_neg (by simp),if_neg (by simp),if_neg (by rw [h4];simp),if_neg (by dsimp only;omega)]
  exact h3
 rw [qstE,if_neg (by rw [hE];simp),if_neg (by rw [h1];simp),if_neg (by simp),if_neg (by rw [h2];simp),if_neg (by rw [hp];simp),if_neg (by simp)]
theorem CndOk.mono {s:Sch} {n m:Nat} {c:Cnd} (h:CndOk s n c) (hn:n≤m):CndOk s m c:=by
 have h1:=h.dep
 have h2:=h.siz
 have h3:2 ^ (n + 1)≤2 ^ (m + 1):=Nat.pow_le_pow_right (by omega) (by omega)
 exact ⟨h.ok,by omega,by omega⟩
theorem Wd (s:Sch) (hd:DrS s) (nm:ByteArray) (hnm:jb nm = true) (l:List UInt8) (a:Nat) (hl:l.length≤400) (ha:a≤l.length) :
 ∃ r:Qst×Nat,((qstE s r.1 = 0∧r.1.name = nm∧CndOk s 2 r.1.filt)∧r.2≤l.length)∧Spc Tryz.prog zW [.ptr 0 1 0 0,schT s,vS nm] [(0,oC l a)] (qstT r.1) [(0,oC l r.2)]:=by
 have hE:=hd.ok
 have hok:=qW hE
 have hnc:=hok.nc
 have hat:∀ i (h:i < s.cols.length),qg s i = s.cols[i]:=fun i h=>by rw [qg,qh h]
 obtain ⟨j,a1,j1,j2,ha1,sN⟩:=yx l a 3 hl ha (by omega)
 obtain ⟨D,rfl⟩:=Int.eq_ofNat_of_zero_le j1
 obtain ⟨⟨c,a2⟩,⟨hc,ha2⟩,sC⟩:=Qf s hd l hl D a1 ha1 (by omega)
 dsimp only at hc ha2 sC
 have hcf:=hc.chk hE (by omega)
 have hcm:=hc.mono (m:=2) (by omega)
 obtain ⟨v,a3,hv,ha3,sV⟩:=Qe s hd l a2 hl ha2
 obtain ⟨_,v2,v3⟩:=jd.1 hv
 rw [Int.toNat_natCast] at v3
 have hil:v < s.cols.length:=by omega
 obtain ⟨w,a4,w1,w2,ha4,sK⟩:=yx l a3 4 hl ha3 (by omega)
 refine zV KP mixm (fun r:Qst×Nat=>qstT r.1) (fun r=>[(0,oC l r.2)]) (by simp) ?_
 unfold jX
 refine sW ?_
 refine XE.mp (fun _ _=>C1.draw 0 l a _ sN rfl rfl rfl) ?_
 refine sW ?_
 refine XE.mp (fun _ _=>C1.draw 0 l a1 _ sC rfl rfl rfl) ?_
 refine sW ?_
 refine XE.sd (by kernel_rfl) ?_
 refine XE.mp (fun _ _=>C1.draw 0 l a2 _ sV rfl rfl rfl) ?_
 refine sW ?_
 refine XE.mp (fun _ _=>C1.draw 0 l a3 _ sK rfl rfl rfl) ?_
 simp only [tZ,↓un_u,simprocAttr,beq_iff_eq,beq_eq_false_iff_ne]
 refine XE.brN (fun h1=>?_) (fun h1=>XE.brN (fun h2=>?_) (fun h2=>XE.brN (fun h3=>?_) (fun h3=>?_)))
 ·obtain ⟨⟨ds,b2⟩,⟨hds,hb2⟩,sQ⟩:=kL s hd l a4 hl ha4
  dsimp only at hds hb2 sQ
  refine XE.mp (fun _ _=>C1.draw 0 l a4 _ sQ rfl rfl rfl) ?_
  refine sW ?_
  refine XE.fin (⟨nm,1,c,ds,v,[],cnd0⟩,b2) ⟨⟨qu7 hE hnm hcf hds (.inr hv),rfl,hcm⟩,hb2⟩ fun e ⟨_,hst⟩=>?_
  exact .oA [(0,some 0)] []
 ·obtain ⟨⟨ts,a5⟩,⟨⟨ht1,ht2⟩,ha5⟩,sT⟩:=qk6 s hd v l a4 hl ha4
  dsimp only at ht1 ht2 ha5 sT
  refine XE.mp (fun _ _=>C1.draw 0 l a4 _ sT rfl rfl rfl) ?_
  simp only [tZ,↓un_u,simprocAttr,decide_eq_true_eq,decide_eq_false_iff_not]
  refine XE.brN (fun h3=>?_) (fun h3=>?_)
  ·refine XE.fin (⟨nm,2,c,[],v,ts,cnd0⟩,a5) ⟨⟨zV2 hE hnm hcf (ht2 (by omega)) hv,rfl,hcm⟩,ha5⟩ fun e ⟨_,hst⟩=>?_
   exact .oA [(0,some 0)] []
  ·obtain ⟨⟨ds,b2⟩,⟨hds,hb2⟩,sQ⟩:=kL s hd l a5 hl ha5
   dsimp only at hds hb2 sQ
   refine XE.mp (fun _ _=>C1.draw 0 l a5 _ sQ rfl rfl rfl) ?_
   refine sW ?_
   refine XE.fin (⟨nm,1,c,ds,-1,[],cnd0⟩,b2) ⟨⟨qu7 hE hnm hcf hds (.inl rfl),rfl,hcm⟩,hb2⟩ fun e ⟨_,hst⟩=>?_
   exact .oA [(0,some 0)] []
 ·simp only [tZ,↓un_u,simprocAttr,Int.toNat_natCast,qe hil,decide_eq_true_eq,decide_eq_false_iff_not]
  refine XE.sd (by omega) ?_
  refine XE.brN (fun h4=>?_) (fun h4=>?_)
  ·obtain ⟨⟨d,a5⟩,⟨hdc,ha5⟩,sE⟩:=Qf s hd l hl 1 a4 ha4 (by omega)
   dsimp only at hdc ha5 sE
   refine XE.mp (fun _ _=>C1.draw 0 l a4 _ sE rfl rfl rfl) ?_
   refine sW ?_
   refine XE.fin (⟨nm,3,c,[],v,[],d⟩,a5) ⟨⟨zV3 hE hnm hcf (hdc.chk hE (by omega)) hv (by rw [Int.toNat_natCast,hat v hil];omega),rfl,hcm⟩,ha5⟩ fun e ⟨_,hst⟩=>?_
   exact .oA [(0,some 0)] []
  ·obtain ⟨⟨ds,b2⟩,⟨hds,hb2⟩,sQ⟩:=kL s hd l a4 hl ha4
   dsimp only at hds hb2 sQ
   refine XE.mp (fun _ _=>C1.draw 0 l a4 _ sQ rfl rfl rfl) ?_
   refine sW ?_
   refine XE.fin (⟨nm,1,c,ds,-1,[],cnd0⟩,b2) ⟨⟨qu7 hE hnm hcf hds (.inl rfl),rfl,hcm⟩,hb2⟩ fun e ⟨_,hst⟩=>?_
   exact .oA [(0,some 0)] []
 ·obtain ⟨⟨ds,b2⟩,⟨hds,hb2⟩,sQ⟩:=kL s hd l a4 hl ha4
  dsimp only at hds hb2 sQ
  refine XE.mp (fun _ _=>C1.draw 0 l a4 _ sQ rfl rfl rfl) ?_
  refine sW ?_
  refine XE.fin (⟨nm,1,c,ds,-1,[],cnd0⟩,b2) ⟨⟨qu7 hE hnm hcf hds (.inl rfl),rfl,hcm⟩,hb2⟩ fun e ⟨_,hst⟩=>?_
  exact .oA [(0,some 0)] []
theorem je (s:Sch) (hd:DrS s) (nm:ByteArray) (hnm:jb nm = true) (l:List UInt8) (a:Nat) (hl:l.length≤400) (ha:a≤l.length) :
 ∃ r:Qst×Nat,((qstE s r.1 = 0∧r.1.name = nm)∧r.2≤l.length)∧Spc Tryz.prog zW [.ptr 0 1 0 0,schT s,vS nm] [(0,oC l a)] (qstT r.1) [(0,oC l r.2)]:=by
 obtain ⟨r,⟨⟨h1,h2,_⟩,h3⟩,h⟩:=Wd s hd nm hnm l a hl ha
 exact ⟨r,⟨⟨h1,h2⟩,h3⟩,h⟩
end Go.Proofs
namespace Go.Proofs
open Go Go.TL
set_option maxRecDepth 4000
set_option maxHeartbeats 8000000
theorem zq4 (f:Nat→Int):∀ n,((canF f n).Pairwise fun a b=>a.col < b.col)∧∀ p∈canF f n,p.col < n
 | 0=>⟨List.Pairwise.nil,by simp [canF]⟩
 | n + 1=>by
   obtain ⟨h1,h2⟩:=zq4 f n
   rw [canF]
   split
   ·refine ⟨List.pairwise_append.2 ⟨h1,by simp,fun p hp q hq=>?_⟩,fun p hp=>?_⟩
    ·rw [List.mem_singleton.1 hq];exact h2 p hp
    ·rcases List.mem_append.1 hp with hp | hp
     ·have:=h2 p hp;omega
     ·rw [List.mem_singleton.1 hp];dsimp only;omega
   ·rw [List.append_nil]
    exact ⟨h1,fun p hp=>by have:=h2 p hp;omega⟩
theorem jh0 {s:Sch} (hE:schE s = 0) {c:Nat} (h1:1≤c) (h2:c < s.cols.length) {v:Int} (h3:0≤v) (h4:v≤finI s c):Qu s ⟨c,v⟩ = 0:=by
 rw [Qu,if_neg (by rw [hE];simp),if_neg (by dsimp only;omega),if_neg]
 rw [Bool.not_eq_false,ZX]
 exact ⟨h3,h4⟩
theorem zu5 {s:Sch} (hE:schE s = 0) {f:Nat→Int} (h:∀ k,k < s.cols.length→0 < f k→1≤k∧f k≤finI s k):yC s (canF f s.cols.length) = 0:=by
 refine qD2 hE (fun p hp=>?_) (zq4 f _).1
 obtain ⟨k,k1,k2,rfl⟩:=Qo.1 hp
 obtain ⟨h1,h2⟩:=h k k1 k2
 exact jh0 hE h1 k1 (by omega) h2
theorem zM4 {l:List Pk} {k F:Int} (hF:0≤F) (h:∀ p∈l,p.col = k→p.lev≤F):mxl l k≤F:=by
 induction l with
 | nil=>exact hF
 | cons p r ih=>
   have h1:=ih fun q hq=>h q (List.mem_cons_of_mem _ hq)
   rw [mxl]
   split
   ·rename_i e
    have:=h p (by simp) e
    omega
   ·exact h1
theorem zb0 {s:Sch} {c lev:Int} (h:0≤lev) (h2:lev≤finI s c):yw s c lev≤lev∧0≤yw s c lev∧divB s c.toNat (yw s c lev).toNat lev.toNat = true∧∀ m:Nat,(m:Int) < yw s c lev→divB s c.toNat m lev.toNat = false:=by
 have h59:lev≤59∨schE s≠0:=by
  by_cases e:schE s = 0
  ·have:=WN (c:=c) e;exact .inl (by omega)
  ·exact .inr e
 have hE:schE s = 0:=(Ku (s:=s) (c:=c) (by omega)).1
 have h59:=WN (c:=c) hE
 rw [yw,if_neg (by rw [Bool.not_eq_false,ZX];omega)]
 obtain ⟨a,b,_,d⟩:=qc7 (p:=fun n=>divB s c.toNat n lev.toNat) (N:=lev.toNat) (zp3 s _ _) 64 0 (by omega) (by omega)
 refine ⟨by omega,by omega,by rw [Int.toNat_natCast];exact a,fun m hm=>d m (by omega) (by omega)⟩
theorem qo8 {s:Sch} (hE:schE s = 0) {k:Nat} (h1:1≤k) (h2:k < s.cols.length):0≤finI s k:=by
 have hok:=qW hE
 have hkk:=ze (hok.cs k h2)
 have h3:=hkk.2.2.1 h1
 refine (zf2 hE (v:=k) ?_).2.2.1
 rcases (show (qg s k).kind = 2∨(qg s k).kind = 3 by omega) with h | h
 ·exact .inl (jd.2 ⟨by omega,by omega,by rw [Int.toNat_natCast];exact h⟩)
 ·exact .inr (jd.2 ⟨by omega,by omega,by rw [Int.toNat_natCast];exact h⟩)
theorem jh1 {s:Sch} {c:Cnd} (h:chkC s c = 0):∀ p∈atP s c,p.lev≤finI s p.col:=fun p hp=>by
 obtain ⟨hE,k2,k3,k4⟩:=qo2 h
 obtain ⟨a,ha,rfl⟩:=List.mem_map.1 hp
 obtain ⟨hnd,hia⟩:=zp2 c k4 a ha
 exact (qC0 hE hnd hia).1
theorem zM5 {s:Sch} {c:Cnd} (h:chkC s c = 0):∀ p∈jO s c,p.lev≤finI s p.col:=fun p hp=>by
 have hE:=(qo2 h).1
 obtain ⟨h1,h2⟩:=Yl h
 rw [h1,Qo] at hp
 obtain ⟨k,k1,k2,rfl⟩:=hp
 have h0:1≤k:=by
  rcases Nat.eq_zero_or_pos k with e | e
  ·subst e
   rw [KC fun q hq=>by have:=h2 q hq;omega] at k2
   omega
  ·exact e
 exact zM4 (qo8 hE h0 k1) fun p hp e=>by rw [← e];exact jh1 h p hp
theorem zb1 {s:Sch} {q:Qst} (hq:QstOk s q):∀ p∈qD1 s q,p.lev≤finI s p.col:=fun p hp=>by
 unfold qD1 at hp
 rcases List.mem_append.1 hp with hp | hp
 ·rcases List.mem_append.1 hp with hp | hp
  ·obtain ⟨d,hd,rfl⟩:=List.mem_map.1 hp
   obtain ⟨_,h1,h2,h3,h4⟩:=qu3 (za9 hq d hd).1
   have:=zb0 h3 h4
   dsimp only;omega
  ·obtain ⟨k,h1,h2,rfl⟩:=zM3.1 hp
   unfold usB at h2
   rw [Bool.and_eq_true,decide_eq_true_eq] at h2
   have h3:=qo8 hq.sch (k:=k) (by omega) h1
   have:=zb0 h3 (Int.le_refl _)
   dsimp only;omega
 ·obtain ⟨c,hc,hp⟩:=List.mem_flatMap.1 hp
  exact zM5 (zq3 hq c hc) p hp
end Go.Proofs
namespace Go.Proofs
open Go Go.TL
set_option maxRecDepth 4000
set_option maxHeartbeats 8000000
theorem qD3 {s:Sch} (hok:SchOk s) {i:Nat} (hi:i < s.cols.length) (h2:(qg s i).kind = 2) {v:Int}:kE s i v = true↔v∈qJ s i:=by
 obtain ⟨_,d2⟩:=hok.cdl hi h2
 constructor
 ·intro h
  rw [kE,if_neg (by omega),if_pos h2,Bool.and_eq_true,ZX,beq_iff_eq] at h
  obtain ⟨⟨g1,g2⟩,g3⟩:=h
  obtain ⟨c,rfl⟩:=Int.eq_ofNat_of_zero_le g1
  rw [lvlC,if_neg (not_or.2 ⟨fun h=>h d2,by omega⟩),Int.toNat_natCast] at g3
  exact (Zk hok hi h2).2 ⟨c,rfl,by omega,g3⟩
 ·intro h;exact JJ h2 d2 h
structure MeasC (s:Sch) (i:Nat):Prop where
 kind:(qg s i).kind = 3
 fin:finI s i = (qg s i).widths.length
 wid:∀ l:Nat,1≤l→l≤(qg s i).widths.length→1≤zm (qg s i) l
 one:zm (qg s i) (qg s i).widths.length = 1
 lh : -1000000≤(qg s i).low∧(qg s i).low≤(qg s i).high∧(qg s i).high≤1000000
 nw:1≤(qg s i).widths.length
 dv:∀ {o l:Nat},1≤o→o < l→l≤(qg s i).widths.length→∃ k:Int,2≤k∧zm (qg s i) o = k * zm (qg s i) l
end Go.Proofs
namespace Go.Proofs
open Go Go.TL
set_option maxRecDepth 4000
set_option maxHeartbeats 8000000
end Go.Proofs
namespace Go.Proofs
open Go Go.TL
set_option maxRecDepth 4000
set_option maxHeartbeats 8000000
theorem zq5:∀ {l:List Pk} {p:Pk},p∈l→p.lev≤mxl l p.col
 | q :: r,p,h=>by
   rw [mxl]
   rcases List.mem_cons.1 h with e | h
   ·subst e;rw [if_pos rfl];omega
   ·have:=zq5 h
    split <;> omega
theorem qD4:∀ {l:List Pk} {k:Int},0 < mxl l k→∃ p∈l,p.col = k∧p.lev = mxl l k
 | [],k,h=>by rw [mxl] at h;omega
 | p :: r,k,h=>by
   rw [mxl] at h ⊢
   by_cases e:p.col = k
   ·rw [if_pos e] at h ⊢
    by_cases h2:mxl r k≤p.lev
    ·exact ⟨p,by simp,e,by omega⟩
    ·obtain ⟨x,h3,h4,h5⟩:=qD4 (l:=r) (k:=k) (by omega)
     exact ⟨x,List.mem_cons_of_mem _ h3,h4,by omega⟩
   ·rw [if_neg e] at h ⊢
    obtain ⟨x,h3,h4,h5⟩:=qD4 (l:=r) (k:=k) h
    exact ⟨x,List.mem_cons_of_mem _ h3,h4,h5⟩
end Go.Proofs
namespace Go.Proofs
open Go Go.TL
set_option maxRecDepth 4000
set_option maxHeartbeats 8000000
theorem WV (x y:Qst):Spc Tryz.prog zY [qstT x,.ip (qstT y).cells] [] (vB (eqB x.name y.name)) []:=by
 refine qd KV mixm (by simp) fun e _ hst=>qk ?_
 unfold ka
 refine sW ?_
 rw [show (x.name.toList == y.name.toList) = eqB x.name y.name from rfl]
 exact .oA [] []
theorem ZP (p:Qst→Bool) (f:FuncId) (caps:List T) (hcap:imL caps = true) (l:List Qst) (hf:∀ y∈l,Spc Tryz.prog f (qstT y :: caps) [] (vB (p y)) []) (hl:l.length < 4611686018427387904) :
 Spc Tryz.prog zH [.sl 17 (l.map qstT),.clo f caps] [] (vI (idxI p l)) []:=by
 refine qd Zc mixm (by simp) fun e _ hst=>qk ?_
 unfold zC
 refine sW ?_
 refine qy mixm (α:=Nat) [8] (fun i=>i≤l.length∧((l.take i).any p = false)) (fun i=>[(8,vI i)]) (fun i=>[]) (fun i=>l.length - i) 0 ⟨by omega,?_⟩ ?_ fun i hi=>?_
 ·simp
 ·exact .oA [] []
 simp only [tZ,↓un_u,simprocAttr,decide_eq_true_eq,decide_eq_false_iff_not]
 refine ⟨fun h=>?_,fun h=>?_⟩
 ·have hi2:i < l.length:=by omega
  have hwi:=qj (i:=i) (by omega)
  simp only [tZ,↓un_u,simprocAttr,Int.toNat_natCast,qe hi2,hwi,YZ]
  refine ⟨by omega,?_⟩
  refine C1.im (hf l[i] (List.getElem_mem hi2)) (Ws rfl hcap) rfl ?_
  refine sW ?_
  refine ⟨fun h3=>?_,fun h3=>⟨i + 1,⟨by omega,jD hi2 hi.2 h3⟩,by omega,?_⟩⟩
  ·rw [idxI,if_pos (qf1 hi2 h3),yH hi2 hi.2 h3]
   exact .imR rfl rfl
  ·exact .oA [] []
 ·have h2:i = l.length:=by omega
  have h3:=hi.2
  rw [h2,List.take_length] at h3
  rw [idxI,if_neg (by rw [h3];simp)]
  exact .imR rfl rfl
theorem Qx (p:Qst→Bool) (f:FuncId) (caps:List T) (hcap:imL caps = true) (l:List Qst) (hf:∀ y∈l,Spc Tryz.prog f (qstT y :: caps) [] (vB (p y)) []) (hl:l.length < 4611686018427387904) :
 Spc Tryz.prog zo [.sl 17 (l.map qstT),.clo f caps] [] (vB (l.any p)) []:=by
 refine qd yR mixm (by simp) fun e _ hst=>qk ?_
 unfold zk
 refine sW ?_
 refine C1.im (ZP p f caps hcap l hf hl) (qf2 rfl hcap) rfl ?_
 refine sW ?_
 rw [show decide (idxI p l≥0) = l.any p from qa1 p l]
 exact .imR rfl rfl
theorem ZQ (s:Sch) (hs:Js s) (d:Dcl):Spc Tryz.prog jF [schT s,dclT d] [] (vI (dclE s d)) []:=by
 refine qd Ys mixm (by simp) fun e _ hst=>qk ?_
 unfold kT
 refine sW ?_
 refine C1.im (jS s hs.2.1 hs.1) (by rfl) (by rfl) ?_
 simp only [tZ,↓un_u,simprocAttr,bne_iff_ne,bne_eq_false_iff_eq]
 refine ⟨fun h=>?_,fun h=>?_⟩
 ·rw [dclE,if_pos h]
  exact .oA [] []
 rw [dclE,if_neg (by rw [h];simp)]
 refine C1.im (wJ d.proj) (by rfl) (by rfl) ?_
 refine sW ?_
 refine C2.im (fun _=>wJ d.src) (fun _=>rfl) (by rfl) ?_
 simp only [tZ,↓un_u,simprocAttr,tD,Bool.not_eq_true',Bool.not_eq_false']
 refine ⟨fun h2=>?_,fun h2=>?_⟩
 ·rw [if_pos h2]
  exact .oA [] []
 rw [if_neg (by rw [h2.1,h2.2];simp)]
 refine C1.im (kM s hs d.coh) (by rfl) (by rfl) ?_
 simp only [tZ,↓un_u,simprocAttr,bne_iff_ne,bne_eq_false_iff_eq]
 refine ⟨fun h3=>?_,fun h3=>?_⟩
 ·rw [if_pos h3]
  exact .oA [] []
 rw [if_neg (by rw [h3];simp)]
 simp only [tZ,↓un_u,simprocAttr,tD,gt_iff_lt,beq_iff_eq,beq_eq_false_iff_ne]
 refine ⟨fun h4=>?_,fun h4=>?_⟩
 ·have:smpE d.smp≠0:=by rw [smpE,if_pos (by omega)];simp
  rw [if_pos this]
  exact .oA [] []
 have h5:smpE d.smp = 0:=by rw [smpE,if_neg (by omega)]
 rw [if_neg (by rw [h5];simp)]
 refine ⟨fun h6=>?_,fun h6=>?_⟩
 ·rw [if_pos (by omega)]
  exact .oA [] []
 rw [if_neg (by omega)]
 generalize hE:zO (qsE s d.qs) d.qs.length = E
 refine qy mixm (α:=Nat) [80] (fun i=>i≤d.qs.length∧(zO (qsE s d.qs) i = 0)) (fun i=>[(80,vI i)]) (fun i=>[(4096,.arr 2 [schT s] false),(4100,.arr 12 [dclT d] false)]) (fun i=>d.qs.length - i) 0 ⟨by omega,?_⟩ ?_ fun i hi=>?_
 ·rfl
 ·exact .oA [(4096,some 4096),(4100,some 4100)] []
 simp only [tZ,↓un_u,simprocAttr,decide_eq_true_eq,decide_eq_false_iff_not]
 refine ⟨fun h=>?_,fun h=>?_⟩
 ·have hi2:i < d.qs.length:=by omega
  have hpi:qAt d.qs i = d.qs[i]:=by rw [qAt,qh hi2]
  have hstep:=Yh hi.2 hi2
  have hnext:=Qd hi.2
  have hA:qsE s d.qs i = if qstE s d.qs[i]≠0 then qstE s d.qs[i] else if ((d.qs.take i).any fun x=>eqB x.name d.qs[i].name) = true then 10 else 0:=by rw [qsE,hpi]
  rw [hE] at hstep
  have hQ:=yE s hs d.qs[i]
  have hCF:=Qx (fun x=>eqB x.name d.qs[i].name) zY [.ip (qstT d.qs[i]).cells] rfl (d.qs.take i) (fun x _=>WV x d.qs[i]) (by rw [List.length_take];omega)
  have hi2:i < d.qs.length:=by omega
  have hwi:=qj (i:=i) (by omega)
  simp only [tZ,↓un_u,simprocAttr,Int.toNat_natCast,qe hi2,hwi]
  refine ⟨by omega,?_⟩
  refine C1.im hQ (by rfl) (by rfl) ?_
  simp only [tZ,↓un_u,simprocAttr,bne_iff_ne,bne_eq_false_iff_eq]
  refine ⟨fun h7=>?_,fun h7=>?_⟩
  ·rw [if_pos h7] at hA
   rw [hstep (by rw [hA];exact h7),hA]
   exact .oA [] []
  rw [if_neg (by rw [h7];simp)] at hA
  refine ⟨by omega,?_⟩
  rw [qa0,qJ6]
  refine C1.lend [69644] hCF ?_ (by rfl) (by rfl) ?_
  ·all_goals (try simp only [tL,simprocAttr,List.map_append,List.map_cons,List.map_nil,List.cons_append,List.nil_append])
   all_goals (try (repeat' (first | exact qY | (apply zy;intro _;exact ⟨rfl,rfl⟩) | (apply qA;intro _;exact ⟨rfl,rfl⟩) | with_reducible apply qR | with_reducible refine qG ⟨rfl,rfl⟩ ?_ | exact qV | with_reducible apply qM | with_reducible refine qO ⟨rfl,rfl,?_⟩ ?_ | with_reducible apply And.intro | exact qQ rfl | exact qQ (by assumption) | (refine ⟨⟨?_,rfl,?_,rfl,?_⟩,trivial⟩ <;> first | (simp;done) | (apply qA;intro _;exact ⟨rfl,rfl⟩)) | trivial | rfl | (rw [qj (by omega)]) | omega)))
   simp only [ltP]
   exact ⟨rfl,by decide,rfl,qG ⟨rfl,rfl⟩ qV⟩
  simp only [tZ,↓un_u,simprocAttr,hwi]
  refine ⟨fun h8=>?_,fun h8=>?_⟩
  ·rw [if_pos h8] at hA
   rw [hstep (by rw [hA];simp),hA]
   exact .oA [] []
  ·rw [if_neg (by rw [h8];simp)] at hA
   refine ⟨i + 1,⟨by omega,by rw [hnext,hA]⟩,by omega,?_⟩
   exact .oA [(4096,some 4096),(4100,some 4100)] []
 ·have hi2:i = d.qs.length:=by omega
  subst hi2
  rw [← hE,hi.2]
  exact .oA [] []
def zu6 (s:Sch) (qs:List Qst):List Pk:=qs.flatMap (wL s)
theorem qu8 {s:Sch} (q:Qst):∀ p∈wL s q,1≤p.col∧p.col < s.cols.length:=fun p hp=>by
 by_cases h:qstE s q = 0
 ·have hq:=WO h
  rw [JT h] at hp
  obtain ⟨k,k1,k2,rfl⟩:=Qo.1 hp
  refine ⟨?_,by dsimp only;omega⟩
  dsimp only
  rcases Nat.eq_zero_or_pos k with e | e
  ·subst e
   rw [KC fun q' hq'=>by have:=qP8 hq q' hq';omega] at k2
   omega
  ·omega
 ·rw [wL,if_pos h] at hp
  simp at hp
theorem Qh {s:Sch} {d:Dcl} (h:dclE s d = 0):jl s d = canF (fun k=>mxl (zu6 s d.qs) k) s.cols.length:=by
 rw [jl,if_neg (by rw [h];simp)]
 have key:∀ qs:List Qst,∀ l,qs.foldl (fun l q=>Jt l (wL s q)) l = Jt l (zu6 s qs):=by
  intro qs
  induction qs with
  | nil=>intro l;rfl
  | cons q r ih=>
    intro l
    rw [List.foldl_cons,ih,← qk4];rfl
 rw [key]
 refine za7 fun p hp=>?_
 obtain ⟨q,hq,hp⟩:=List.mem_flatMap.1 hp
 have:=qu8 q p hp
 omega
theorem WW (s:Sch) (hs:Js s) (d:Dcl) (h:dclE s d = 0):Spc Tryz.prog wT [schT s,dclT d] [] (vPs (jl s d)) []:=by
 obtain ⟨hE,_,_,_,_,hq1,hq2,_⟩:=qo0 h
 have hnc:=(qW hE).nc
 rw [Qh h,zu6,List.flatMap_def]
 have hbl:∀ l∈d.qs.map (wL s),l.length≤1000:=fun l hl=>by
  obtain ⟨q,_,rfl⟩:=List.mem_map.1 hl
  have:=qC3 s q
  omega
 have hbb:∀ l∈d.qs.map (wL s),∀ p∈l,0≤p.col∧p.col < s.cols.length:=fun l hl p hp=>by
  obtain ⟨q,_,rfl⟩:=List.mem_map.1 hl
  have:=qu8 q p hp
  omega
 have hM:=JS (d.qs.map (wL s)) s.cols.length (by omega) (by omega) (by rw [List.length_map];omega) hbl hbb
 refine qd qr3 mixm (by simp) fun e _ hst=>qk ?_
 unfold QG
 refine sW ?_
 refine qy mixm (α:=Nat) [5,11] (fun i=>i≤d.qs.length) (fun i=>[(5,.asl 1 i),(11,vI i)]) (fun i=>[(4096,.arr 2 [schT s] false),(1,.arr 1 ((d.qs.take i).map fun q=>vPs (wL s q)) false)]) (fun i=>d.qs.length - i) 0 (by omega) ?_ fun i hi=>?_
 ·exact .oA [(4096,some 4096),(1,none)] []
 have htl:(d.qs.take i).length = i:=by rw [List.length_take];omega
 refine sD ?_
 refine ⟨fun h3=>?_,fun h3=>?_⟩
 ·have hi2:i < d.qs.length:=by omega
  have hwi:=qj (i:=i) (by omega)
  have hN:=JU s hs d.qs[i]
  simp only [tZ,↓un_u,simprocAttr,Int.toNat_natCast,qe hi2]
  refine ⟨by omega,?_⟩
  refine C1.im hN (by rfl) (by rfl) ?_
  simp only [tZ,↓un_u,simprocAttr,hwi]
  refine ⟨by omega,i + 1,by omega,by omega,?_⟩
  rw [zc hi2,List.map_append]
  exact .oA [(4096,some 4096),(1,some 1)] []
 ·have hil:i = d.qs.length:=by omega
  subst hil
  rw [List.take_length]
  rw [List.map_map] at hM
  refine C1.shut [1] hM ?_ (by rfl) rfl ?_
  ·all_goals (try exact clA)
  refine sW ?_
  exact .oA [] []
theorem ZR (s:Sch) (hs:Js s) (d:Dcl):Spc Tryz.prog ko [schT s,dclT d] [] (.tup [vPs (jl s d),vI (dclE s d)]) []:=by
 refine qd qr1 mixm (by simp) fun e _ hst=>qk ?_
 unfold QF
 refine sW ?_
 refine C1.im (ZQ s hs d) (by rfl) (by rfl) ?_
 simp only [tZ,↓un_u,simprocAttr,bne_iff_ne,bne_eq_false_iff_eq]
 refine ⟨fun h=>?_,fun h=>?_⟩
 ·rw [jl,if_pos h]
  exact .oA [] []
 refine C1.im (WW s hs d h) (by rfl) (by rfl) ?_
 rw [h]
 refine sW ?_
 exact .oA [] []
theorem jB (a b:List Pk) (ha:a.length < 4611686018427387904) (hb:b.length < 4611686018427387904):Spc Tryz.prog zj [vPs a,vPs b] [] (vB (covB a b)) []:=by
 refine qd qf7 mixm (by simp) fun e _ hst=>qk ?_
 unfold ye
 refine sW ?_
 refine C1.im (qk2 b a hb ha) (by rfl) (by rfl) ?_
 refine sW ?_
 exact .oA [] []
theorem Ym {a b:List Pk}:covB a b = true↔∀ x∈a,∃ y∈b,y.col = x.col∧x.lev≤y.lev:=by
 unfold covB
 simp only [List.all_eq_true,List.any_eq_true,Bool.and_eq_true,beq_iff_eq,decide_eq_true_eq]
theorem zM6 {s:Sch} {d:Dcl} (h:dclE s d = 0) (l:List Pk) (hl:l.Pairwise fun a b=>a.col < b.col):covB (jl s d) l = d.qs.all fun q=>covB (wL s q) l:=by
 rw [Bool.eq_iff_iff,Ym,List.all_eq_true,Qh h]
 constructor
 ·intro H q hq
  rw [Ym]
  intro x hx
  have hb:=qu8 q x hx
  have hm:x∈zu6 s d.qs:=List.mem_flatMap.2 ⟨q,hq,hx⟩
  have hge:=zq5 hm
  obtain ⟨k,hk⟩:=Int.eq_ofNat_of_zero_le (show 0≤x.col by omega)
  rw [hk] at hge
  have hx0:0 < x.lev:=by
   by_cases hq0:qstE s q = 0
   ·rw [JT hq0] at hx
    obtain ⟨_,_,k2,rfl⟩:=Qo.1 hx
    exact k2
   ·rw [wL,if_pos hq0] at hx;simp at hx
  obtain ⟨y,hy,e1,e2⟩:=H ⟨k,mxl (zu6 s d.qs) k⟩ (Qo.2 ⟨k,by omega,by omega,rfl⟩)
  exact ⟨y,hy,by rw [e1,hk],by dsimp only at e2;omega⟩
 ·intro H x hx
  obtain ⟨k,k1,k2,rfl⟩:=Qo.1 hx
  obtain ⟨p,hp,e1,e2⟩:=qD4 k2
  obtain ⟨q,hq,hp2⟩:=List.mem_flatMap.1 hp
  obtain ⟨y,hy,e3,e4⟩:=Ym.1 (H q hq) p hp2
  exact ⟨y,hy,by rw [e3,e1],by dsimp only;omega⟩
theorem zq6 {s:Sch} {d:Dcl} (h:dclE s d = 0) {l:List Pk} (hl:yC s l = 0):qZ5 s d l = if covB (jl s d) l = true then 0 else 23:=by
 obtain ⟨_,_,hasc⟩:=qj0 hl
 obtain ⟨_,_,_,_,_,_,_,hqs⟩:=qo0 h
 rw [qZ5,if_neg (by rw [h];simp),if_neg (by rw [hl];simp),zM6 h l hasc]
 have hs:∀ i,i < d.qs.length→sufB s (qAt d.qs i) l = covB (wL s (qAt d.qs i)) l:=fun i hi=>by
  rw [sufB,hqs i hi,hl];simp
 by_cases hall:(d.qs.all fun q=>covB (wL s q) l) = true
 ·rw [if_pos hall]
  refine JM fun i hi=>?_
  have:=List.all_eq_true.1 hall (qAt d.qs i) (by rw [qAt,qh hi];exact List.getElem_mem _)
  rw [hs i hi,this];rfl
 ·rw [if_neg hall]
  refine Classical.byContradiction fun hne=>hall ?_
  rw [List.all_eq_true]
  intro q hq
  obtain ⟨i,hi,rfl⟩:=List.getElem_of_mem hq
  have key:∀ n,n≤d.qs.length→(zO (fun i=>if sufB s (qAt d.qs i) l = true then 0 else 23) n = 0∨zO (fun i=>if sufB s (qAt d.qs i) l = true then 0 else 23) n = 23):=by
   intro n
   induction n with
   | zero=>intro _;exact .inl rfl
   | succ n ih=>
     intro hn
     rw [zO]
     rcases ih (by omega) with e | e
     ·rw [if_neg (by rw [e];simp)];split <;> simp
     ·rw [if_pos (by rw [e];simp)];exact .inr e
  have h0:=(key _ (Nat.le_refl _)).resolve_right hne
  have:=JL h0 i hi
  rw [hs i hi,qAt,qh hi] at this
  by_cases e:covB (wL s d.qs[i]) l = true
  ·exact e
  ·rw [if_neg e] at this;cases this
theorem KK (s:Sch) (hs:Js s) (d:Dcl) (l:List Pk) (hl:l.length < 4611686018427387904):Spc Tryz.prog zT [schT s,dclT d,vPs l] [] (vI (qZ5 s d l)) []:=by
 have hpl:=qC4 s d
 refine qd qm0 mixm (by simp) fun e _ hst=>qk ?_
 unfold yO
 refine sW ?_
 refine C1.im (ZQ s hs d) (by rfl) (by rfl) ?_
 simp only [tZ,↓un_u,simprocAttr,bne_iff_ne,bne_eq_false_iff_eq]
 refine ⟨fun h=>?_,fun h=>?_⟩
 ·rw [qZ5,if_pos h]
  exact .oA [] []
 refine C1.im (qG6 s hs l hl) (by rfl) (by rfl) ?_
 simp only [tZ,↓un_u,simprocAttr,bne_iff_ne,bne_eq_false_iff_eq]
 refine ⟨fun h2=>?_,fun h2=>?_⟩
 ·rw [qZ5,if_neg (by rw [h];simp),if_pos h2]
  exact .oA [] []
 rw [zq6 h h2]
 refine C1.im (WW s hs d h) (by rfl) (by rfl) ?_
 refine sW ?_
 refine C1.im (jB (jl s d) l (by omega) hl) (by rfl) (by rfl) ?_
 simp only [tZ,↓un_u,simprocAttr,Bool.not_eq_true',Bool.not_eq_false']
 refine ⟨fun h3=>?_,fun h3=>?_⟩
 ·rw [if_neg (by rw [h3];simp)]
  exact .oA [] []
 ·rw [if_pos h3]
  exact .oA [] []
end Go.Proofs
namespace Go.Proofs
open Go Go.TL
set_option maxRecDepth 4000
set_option maxHeartbeats 8000000
def Qb (s:Sch) (q:Qst) (k:Nat) (lev:Int) (x y:Int):Prop:=qK s k lev x = qK s k lev y∧zM0 s q k x y = true
structure FirstV (s:Sch) (q:Qst) (k:Nat) (lev:Int) (x y:Int):Prop where
 hx:kE s k x = true
 hy:kE s k y = true
 lt:x < y
 qb:Qb s q k lev x y
 least:∀ x' y',kE s k x' = true→kE s k y' = true→x' < y'→Qb s q k lev x' y'→x < x'∨(x = x'∧y≤y')
structure LeastX (s:Sch) (q:Qst) (k:Nat) (lev:Int) (x:Int):Prop where
 lo:(qg s k).low < x
 hi:x≤(qg s k).high
 qb:Qb s q k lev (x - 1) x
 least:∀ y,(qg s k).low < y→y < x→¬ Qb s q k lev (y - 1) y
def zM7 (s:Sch) (q:Qst) (k:Nat) (lev a b:Int):Prop:=
 if (qg s k).kind = 2 then FirstV s q k lev a b
 else if lev = 0∧(qg s k).opt = true then a = qc5∧b = (qg s k).low
 else LeastX s q k lev b∧a = (if lev = 0 then (qg s k).low else max (qg s k).low (qK s k lev b))
def WitR (s:Sch) (d:Dcl) (col:Int) (w:Int×Int×Int×Bool):Prop:=
 (¬ (dclE s d = 0∧0 < mxl (jl s d) col)∧w = (0,0,0,false))∨
 (dclE s d = 0∧∃ (k n:Nat) (a b:Int),col = k∧0 < k∧k < s.cols.length∧0 < mxl (jl s d) k∧n < d.qs.length∧mxl (wL s (qAt d.qs n)) k = mxl (jl s d) k∧(∀ m,m < n→mxl (wL s (qAt d.qs m)) k≠mxl (jl s d) k)∧zM7 s (qAt d.qs n) k (mxl (jl s d) k - 1) a b∧w = (a,b,(n:Int),true))
theorem qD5 {s:Sch} {q:Qst} (h:qstE s q = 0) {k:Nat} (hk:k < s.cols.length):mxl (wL s q) k = mxl (qD1 s q) k:=by
 rw [JT h,qu6 fun k=>KB _ _,if_pos hk]
theorem zM8 {s:Sch} {d:Dcl} (h:dclE s d = 0) {k:Nat} (hk:k < s.cols.length):mxl (jl s d) k = mxl (zu6 s d.qs) k:=by
 rw [Qh h,qu6 fun k=>KB _ _,if_pos hk]
theorem jm2 {l:List Pk} {k:Int} (h:0 < mxl l k):∃ p∈l,p.col = k:=by
 obtain ⟨p,hp,e,_⟩:=qD4 h
 exact ⟨p,hp,e⟩
end Go.Proofs
namespace Go.Proofs
open Go Go.TL
set_option maxRecDepth 4000
set_option maxHeartbeats 8000000
def YS (L:List Int) (f g:Int→Int) (v:Int):Int×Bool:=match L.filter (fun x=>f x == v) with
 | []=>(0,false)
 | x :: r=>if (r.all fun y=>g y == g x) = true then (g x,true) else (0,false)
theorem zf8 {L:List Int} {f:Int→Int} {v:Int} {i:Nat} (h:i < L.length):(L.take (i + 1)).filter (fun x=>f x == v) = (L.take i).filter (fun x=>f x == v) ++ if (f L[i] == v) = true then [L[i]] else []:=by
 rw [zc h,List.filter_append]
 congr 1
 split
 ·rename_i h2;rw [List.filter_cons_of_pos (p:=fun x=>f x == v) h2];rfl
 ·rename_i h2;rw [List.filter_cons_of_neg (p:=fun x=>f x == v) h2];rfl
def TcI (g:Int→Int) (M:List Int) (o:Int) (b:Bool):Prop:=(M = []∧o = 0∧b = false)∨∃ x r,M = x :: r∧(∀ y∈r,g y = g x)∧o = g x∧b = true
theorem TcI.fin {L:List Int} {f g:Int→Int} {v o:Int} {b:Bool} (h:TcI g (L.filter fun x=>f x == v) o b):YS L f g v = (o,b):=by
 unfold YS
 rcases h with ⟨h1,h2,h3⟩ | ⟨x,r,h1,h2,h3,h4⟩
 ·rw [h1,h2,h3]
 ·rw [h1,h3,h4]
  dsimp only
  rw [if_pos (List.all_eq_true.2 fun y hy=>beq_iff_eq.2 (h2 y hy))]
theorem zu7 {L:List Int} {f g:Int→Int} {v:Int} {i:Nat} (h:i < L.length) {o:Int} (hI:TcI g ((L.take i).filter fun x=>f x == v) o true) (h1:(f L[i] == v) = true) (h2:g L[i]≠o):YS L f g v = (0,false):=by
 rcases hI with ⟨_,_,h3⟩ | ⟨x,r,h3,h4,h5,_⟩
 ·cases h3
 ·have hL:L.filter (fun x=>f x == v) = x :: (r ++ L[i] :: (L.drop (i + 1)).filter fun x=>f x == v):=by
   conv=>lhs;rw [← List.take_append_drop i L,List.filter_append,h3,zK2 h,List.filter_cons_of_pos (p:=fun x=>f x == v) h1]
   simp
  unfold YS
  rw [hL]
  dsimp only
  rw [if_neg]
  intro k
  have:=List.all_eq_true.1 k L[i] (by simp)
  rw [beq_iff_eq,← h5] at this
  exact h2 this
theorem qo9 (l:CodL) (hl:lstE l = 0) (a v b:Int):Spc Tryz.prog yM [cdlT l,vI a,vI v,vI b] [] (.tup [vI (YS (atL l (zh l - 1)) (fun x=>upC l x a) (fun x=>upC l x b) v).1,vB (YS (atL l (zh l - 1)) (fun x=>upC l x a) (fun x=>upC l x b) v).2]) []:=by
 have hlv:=qB3 (l:=l)
 have hw:IntKind.i64.wrap (zh l - 1) = zh l - 1:=IntWalk.i64_in _ (by omega)
 have hLl:(atL l (zh l - 1)).length≤60:=by
  obtain ⟨_,d5,d6⟩:=zr hl
  unfold atL
  rw [if_neg (by rw [hl];simp),List.length_map]
  refine Nat.le_trans (List.length_filter_le _ _) ?_
  rw [List.length_range];exact d6
 refine qd qi0 mixm (by simp) fun e _ hst=>qk ?_
 unfold yp
 refine sW ?_
 refine C1.im (Jw l) (by rfl) (by rfl) ?_
 simp only [tZ,↓un_u,simprocAttr,hw]
 refine C1.im (qo3 l (zh l - 1)) (by rfl) (by rfl) ?_
 generalize atL l (zh l - 1) = L at hLl ⊢
 refine sW ?_
 refine ⟨by kernel_rfl,?_⟩
 refine qy mixm (α:=Nat×Int×Bool) [10,11,21] (fun y=>y.1≤L.length∧TcI (fun x=>upC l x b) ((L.take y.1).filter fun x=>upC l x a == v) y.2.1 y.2.2) (fun y=>[(10,vI y.2.1),(11,vB y.2.2),(21,vI y.1)]) (fun y=>[(4096,.arr 2 [cdlT l] false)]) (fun y=>L.length - y.1) (0,0,false) ⟨by simp,.inl ⟨rfl,rfl,rfl⟩⟩ ?_ fun y hy=>?_
 ·exact .oA [(4096,some 4096)] []
 obtain ⟨i,o,t⟩:=y
 obtain ⟨y1,y2⟩:=hy
 dsimp only at y1 y2
 refine sD ?_
 refine ⟨fun h3=>?_,fun h3=>?_⟩
 ·have hi2:i < L.length:=by omega
  have hwi:=qj (i:=i) (by omega)
  have hsp:=zf8 (f:=fun x=>upC l x a) (v:=v) hi2
  have hbad:=fun e=>zu7 (f:=fun x=>upC l x a) (g:=fun x=>upC l x b) (v:=v) (o:=o) hi2 e
  have sU:=fun c=>Yk l L[i] c
  simp only [tZ,↓un_u,simprocAttr,Int.toNat_natCast,qe hi2]
  refine ⟨by omega,?_⟩
  refine C1.im (sU a) (by rfl) (by rfl) ?_
  simp only [tZ,↓un_u,simprocAttr,bne_iff_ne,bne_eq_false_iff_eq,hwi]
  generalize L[i] = x at hsp hbad sU ⊢
  refine ⟨fun h4=>?_,fun h4=>?_⟩
  ·rw [if_neg (by rw [beq_iff_eq];exact h4),List.append_nil] at hsp
   refine ⟨(i + 1,o,t),⟨by dsimp only;omega,by dsimp only;rw [hsp];exact y2⟩,by dsimp only;omega,?_⟩
   exact .oA [(4096,some 4096)] []
  ·rw [if_pos (beq_iff_eq.2 h4)] at hsp
   refine C1.im (sU b) (by rfl) (by rfl) ?_
   simp only [tZ,↓un_u,simprocAttr,tD,bne_iff_ne,bne_eq_false_iff_eq,hwi]
   refine ⟨fun h5=>?_,fun h5=>?_⟩
   ·rw [h5.1] at y2
    rw [hbad y2 (beq_iff_eq.2 h4) h5.2]
    exact .oA [] []
   ·refine ⟨(i + 1,upC l x b,true),⟨by dsimp only;omega,?_⟩,by dsimp only;omega,?_⟩
    ·dsimp only
     rw [hsp]
     rcases y2 with ⟨k1,k2,k3⟩ | ⟨z,r,k1,k2,k3,k4⟩
     ·exact .inr ⟨x,[],by rw [k1];rfl,by simp,rfl,rfl⟩
     ·right
      have hx:upC l x b = o:=by
       rw [k4] at h5
       simpa using h5
      refine ⟨z,r ++ [x],by rw [k1];rfl,fun y hy=>?_,by rw [hx,k3],rfl⟩
      rcases List.mem_append.1 hy with hy | hy
      ·exact k2 y hy
      ·rw [List.mem_singleton.1 hy]
       dsimp only
       rw [hx,k3]
    ·exact .oA [(4096,some 4096)] []
 ·have hil:i = L.length:=by omega
  subst hil
  rw [List.take_length] at y2
  rw [TcI.fin y2]
  exact .oA [] []
theorem zM9 {s:Sch} (hE:schE s = 0) {k:Nat} (hk:k < s.cols.length) (h0:0 < k) (h2:(qg s k).kind = 2) (x:Int):(YS (qJ s k) (fun y=>upC (qE s k) y (finI s k)) (fun y=>upC (qE s k) y (finI s k)) x).2 = kE s k x:=by
 have hok:=qW hE
 obtain ⟨_,d2⟩:=hok.cdl hk h2
 have hself:∀ y∈qJ s k,upC (qE s k) y (finI s k) = y:=fun y hy=>by
  have h3:=qc9 hE h0 hk h2 hy
  have h4:=JJ h2 d2 hy
  have hf:=qo8 hE h0 hk
  rw [qK,if_neg (by rw [Bool.not_eq_false,ZX];omega),Int.toNat_natCast,if_pos h2,if_neg (by rw [h4];simp)] at h3
  exact h3
 have hl:=qD3 hok hk h2 (v:=x)
 unfold YS
 cases hf:(qJ s k).filter fun y=>upC (qE s k) y (finI s k) == x with
 | nil=>
   dsimp only
   symm
   rw [Bool.eq_false_iff]
   intro hh
   have hm:=hl.1 hh
   have:=List.filter_eq_nil_iff.1 hf x hm
   rw [hself x hm] at this
   simp at this
 | cons y r=>
   dsimp only
   have hy:y∈(qJ s k).filter fun y=>upC (qE s k) y (finI s k) == x:=by rw [hf];exact List.mem_cons_self
   obtain ⟨hy1,hy2⟩:=List.mem_filter.1 hy
   rw [hself y hy1,beq_iff_eq] at hy2
   subst hy2
   rw [if_pos,hl.2 hy1]
   rw [List.all_eq_true]
   intro z hz
   have hz2:z∈(qJ s k).filter fun y'=>upC (qE s k) y' (finI s k) == y:=by rw [hf];exact List.mem_cons_of_mem _ hz
   obtain ⟨z1,z2⟩:=List.mem_filter.1 hz2
   rw [hself z z1,beq_iff_eq] at z2
   rw [z2];exact beq_self_eq_true _
theorem qt5 (s:Sch) (hE:schE s = 0) (k:Nat) (hk:k < s.cols.length) (h0:0 < k) (h2:(qg s k).kind = 2) (a v b:Int) (ha:0≤a∧a≤finI s k) (hb:0≤b∧b≤finI s k):Spc Tryz.prog Zq [schT s,vI k,vI a,vI v,vI b] []
 (let r:=YS (qJ s k) (fun x=>upC (qE s k) x a) (fun x=>upC (qE s k) x b) v;.tup [vI (if r.2 = true then r.1 else 0),vB r.2]) []:=by
 have hok:=qW hE
 have hat:qg s k = s.cols[k]:=by rw [qg,qh hk]
 obtain ⟨d1,d2⟩:=hok.cdl hk h2
 have hls:qJ s k = atL (qE s k) (zh (qE s k) - 1):=rfl
 have hcd:qE s k = s.lists.getD (qg s k).list.toNat default:=rfl
 have hkk:=(ze (hok.cs k hk)).2.2.2.1 h2
 have sT:=ZM s hE k
 have e1:decide (a < 0) = false:=decide_eq_false (by omega)
 have e2:decide (a > finI s k) = false:=decide_eq_false (by omega)
 have e3:decide (b < 0) = false:=decide_eq_false (by omega)
 have e4:decide (b > finI s k) = false:=decide_eq_false (by omega)
 rw [hls]
 have sC:=qo9 (qE s k) d2 a v b
 generalize YS (atL (qE s k) (zh (qE s k) - 1)) (fun x=>upC (qE s k) x a) (fun x=>upC (qE s k) x b) v = r at sC ⊢
 rw [hat] at d1 h2 hcd hkk
 rw [hcd,qh d1] at sC
 dsimp only
 refine qd qr9 mixm (by simp) fun e _ hst=>qk ?_
 unfold QJ
 refine sW ?_
 refine C1.im sT (by rfl) (by rfl) ?_
 simp only [tZ,↓un_u,simprocAttr,e1,e2,e3,e4,Int.toNat_natCast,qe hk,beq_iff_eq,beq_eq_false_iff_ne]
 generalize s.cols[k] = x at d1 h2 hkk sC ⊢
 refine ⟨by omega,fun _=>?_,fun h=>absurd h2 h⟩
 simp only [tZ,↓un_u,simprocAttr,qe d1]
 refine ⟨by omega,?_⟩
 refine C1.im sC (by rfl) (by rfl) ?_
 simp only [tZ,↓un_u,simprocAttr,Bool.not_eq_true',Bool.not_eq_false']
 refine ⟨fun h=>?_,fun h=>?_⟩
 ·rw [h,if_neg (by simp)]
  exact .oA [] []
 ·rw [h,if_pos rfl]
  exact .oA [] []
theorem JV (s:Sch) (hE:schE s = 0) (k:Nat) (hk:k < s.cols.length) (h0:0 < k) (h2:(qg s k).kind = 2) (x:Int):Spc Tryz.prog js [vI x,.ip (schT s).cells,.ip [vI k],.ip [vI (finI s k)]] [] (vB (kE s k x)) []:=by
 have hf:=qo8 hE h0 hk
 have sT:=qt5 s hE k hk h0 h2 (finI s k) x (finI s k) (by omega) (by omega)
 dsimp only at sT
 rw [zM9 hE hk h0 h2] at sT
 refine qd Ji mixm (by simp) fun e _ hst=>qk ?_
 unfold jj
 refine sW ?_
 refine C1.im sT (by rfl) (by rfl) ?_
 refine sW ?_
 exact .oA [] []
theorem We (s:Sch) (q:Qst) (hq:QstOk s q) (k:Nat) (hk:k < s.cols.length) (h0:0 < k) (h2:(qg s k).kind = 2) (lev a b:Int) (hF:FirstV s q k lev a b):Spc Tryz.prog jV [schT s,qstT q,vI k,vI lev] [] (.tup [vI a,vI b]) []:=by
 have hE:=hq.sch
 have hok:=qW hE
 have hs:=hok.sm
 have hat:qg s k = s.cols[k]:=by rw [qg,qh hk]
 obtain ⟨d1,d2⟩:=hok.cdl hk h2
 obtain ⟨_,d5,d6⟩:=zr d2
 have hcd:qE s k = s.lists.getD (qg s k).list.toNat default:=rfl
 have hkk:=(ze (hok.cs k hk)).2.2.2.1 h2
 have sF:=yz s hs k
 have sL:=JV s hE k hk h0 h2
 have sC:=fun v=>WS s hs k lev v
 have sT:=fun x y=>qt4 s hok q hq.nd hq.nt (zq3 hq) k x y
 have hcode:∀ v,kE s k v = true→∃ c:Nat,v = c∧c < (qE s k).codes.length:=fun v hv=>by
  obtain ⟨c,e,c1,_⟩:=(Zk hok hk h2).1 ((qD3 hok hk h2).1 hv)
  exact ⟨c,e,c1⟩
 rw [hat] at d1 hcd hkk
 rw [hcd,qh d1] at hcode d6
 obtain ⟨A,rfl,hA⟩:=hcode a hF.hx
 obtain ⟨B,rfl,hB⟩:=hcode b hF.hy
 have hAB:=hF.lt
 refine qd Kk mixm (by simp) fun e _ hst=>qk ?_
 unfold jK
 simp only [tZ,↓un_u,simprocAttr,Int.toNat_natCast,qe hk]
 generalize s.cols[k] = x at d1 hkk hcode d6 hA hB ⊢
 simp only [tZ,↓un_u,simprocAttr,qe d1]
 refine ⟨by omega,by omega,by kernel_rfl,?_⟩
 generalize s.lists[x.list.toNat] = l at hcode d6 hA hB ⊢
 refine C1.im sF (by rfl) (by rfl) ?_
 refine sW ?_
 refine qy mixm (α:=Nat) [32] (fun i=>i≤A) (fun i=>[(32,vI i)]) (fun i=>[(4096,.arr 2 [schT s] false),(4100,.arr 17 [qstT q] false),(4104,.arr 1 [vI k] false),(12300,.arr 1 [vI (finI s k)] false)]) (fun i=>A - i) 0 (by omega) ?_ fun i hi=>?_
 ·exact .oA [(4096,some 4096),(4100,some 4100),(4104,some 4104),(12300,some 12300)] []
 have hwi:=qj (i:=i) (by omega)
 simp only [tZ,↓un_u,simprocAttr,tD,hwi]
 refine ⟨fun h3=>?_,fun h3=>by omega⟩
 refine qy mixm (α:=Nat) [14] (fun j=>i + 1≤j∧j≤l.codes.length∧(i = A→j≤B)) (fun j=>[(14,vI j)]) (fun j=>[(4096,.arr 2 [schT s] false),(4100,.arr 17 [qstT q] false),(4104,.arr 1 [vI k] false),(12300,.arr 1 [vI (finI s k)] false)]) (fun j=>l.codes.length - j) (i + 1) ⟨by omega,by omega,by omega⟩ ?_ fun j hj=>?_
 ·exact .oA [(4096,some 4096),(4100,some 4100),(4104,some 4104),(12300,some 12300)] []
 obtain ⟨j1,j2,j3⟩:=hj
 have hwj:=qj (i:=j) (by omega)
 refine sW ?_
 refine C2.lend [4096,4104,12300] (fun _=>sL i) (fun _=>?_) (by rfl) (by rfl) ?_
 ·all_goals (try simp only [tL,simprocAttr,List.map_append,List.map_cons,List.map_nil,List.cons_append,List.nil_append])
  all_goals (try (repeat' (first | exact qY | (apply zy;intro _;exact ⟨rfl,rfl⟩) | (apply qA;intro _;exact ⟨rfl,rfl⟩) | with_reducible apply qR | with_reducible refine qG ⟨rfl,rfl⟩ ?_ | exact qV | with_reducible apply qM | with_reducible refine qO ⟨rfl,rfl,?_⟩ ?_ | with_reducible apply And.intro | exact qQ rfl | exact qQ (by assumption) | (refine ⟨⟨?_,rfl,?_,rfl,?_⟩,trivial⟩ <;> first | (simp;done) | (apply qA;intro _;exact ⟨rfl,rfl⟩)) | trivial | rfl | (rw [qj (by omega)]) | omega)))
  all_goals (simp only [ltP];exact ⟨rfl,by decide,rfl,qG ⟨rfl,rfl⟩ qV⟩)
 refine sD ?_
 refine ⟨fun h5=>?_,fun h5=>?_⟩
 ·refine C1.lend [4096,4104,12300] (sL j) ?_ (by rfl) (by rfl) ?_
  ·all_goals (try simp only [tL,simprocAttr,List.map_append,List.map_cons,List.map_nil,List.cons_append,List.nil_append])
   all_goals (try (repeat' (first | exact qY | (apply zy;intro _;exact ⟨rfl,rfl⟩) | (apply qA;intro _;exact ⟨rfl,rfl⟩) | with_reducible apply qR | with_reducible refine qG ⟨rfl,rfl⟩ ?_ | exact qV | with_reducible apply qM | with_reducible refine qO ⟨rfl,rfl,?_⟩ ?_ | with_reducible apply And.intro | exact qQ rfl | exact qQ (by assumption) | (refine ⟨⟨?_,rfl,?_,rfl,?_⟩,trivial⟩ <;> first | (simp;done) | (apply qA;intro _;exact ⟨rfl,rfl⟩)) | trivial | rfl | (rw [qj (by omega)]) | omega)))
   all_goals (simp only [ltP];exact ⟨rfl,by decide,rfl,qG ⟨rfl,rfl⟩ qV⟩)
  refine sW ?_
  refine C2.im (fun _=>sC i) (fun _=>rfl) (by rfl) ?_
  refine sW ?_
  refine C2.im (fun _=>sC j) (fun _=>rfl) (by rfl) ?_
  refine sW ?_
  refine C2.im (fun _=>sT i j) (fun _=>rfl) (by rfl) ?_
  simp only [tZ,↓un_u,simprocAttr,hwj,tD,beq_iff_eq,beq_eq_false_iff_ne]
  have hq2:∀ h1:kE s k i = true,(kE s k j = true∧qK s k lev i = qK s k lev j)∧zM0 s q k i j = true→A = i∧B = j:=fun h1 h2=>by
   have:=hF.least i j h1 h2.1.1 (by omega) ⟨h2.1.2,h2.2⟩
   have hiA:A = i:=by omega
   have:=j3 hiA.symm
   omega
  refine ⟨by kernel_rfl,fun h6=>?_,fun h6=>?_⟩
  ·obtain ⟨e1,e2⟩:=hq2 h5.2 h6
   rw [e1,e2]
   exact .oA [] []
  ·refine ⟨j + 1,⟨by omega,by omega,fun e=>?_⟩,by omega,?_⟩
   ·have h7:=j3 e
    refine Classical.byContradiction fun hn=>?_
    have hjB:j = B:=by omega
    subst hjB
    subst e
    have:=hF.qb
    have hy:=hF.hy
    have h8:¬ ((kE s k j = true∧qK s k lev i = qK s k lev j)∧zM0 s q k i j = true):=fun h=>by
     rcases h6 with h6 | h6
     ·rcases h6 with h6 | h6
      ·rw [h6] at hy;cases hy
      ·exact h6 h.1.2
     ·rw [h6] at h;cases h.2
    exact h8 ⟨⟨hy,this.1⟩,this.2⟩
   ·exact .oA [(4096,some 4096),(4100,some 4100),(4104,some 4104),(12300,some 12300)] []
 ·rw [hwi]
  have hlt:i + 1≤A:=by
   refine Classical.byContradiction fun hn=>?_
   have hiA:i = A:=by omega
   have h7:=j3 hiA
   have hx:=hF.hx
   rw [hiA] at h5
   rcases h5 with h5 | h5
   ·omega
   ·rw [h5] at hx;cases hx
  refine ⟨i + 1,hlt,by omega,?_⟩
  exact .oA [(4096,some 4096),(4100,some 4100),(4104,some 4104),(12300,some 12300)] []
theorem YJ (p:Pk) (k:Int):Spc Tryz.prog jm [pkT p,.ip [vI k]] [] (vB (p.col == k)) []:=by
 refine qd Wy mixm (by simp) fun e _ hst=>qk ?_
 unfold kv
 refine sW ?_
 exact .oA [] []
theorem ZY {f:Nat→Int} {n:Nat} {p:Pk} (h:p∈canF f n):0 < p.lev∧p.lev = f p.col.toNat∧0≤p.col∧p.col < n:=by
 obtain ⟨k,k1,k2,rfl⟩:=Qo.1 h
 exact ⟨k2,rfl,by dsimp only;omega,by dsimp only;omega⟩
theorem zN0 {s:Sch} {q:Qst} (h:qstE s q = 0) {k:Nat} (hk:k < s.cols.length) {lev:Int} (hl:0 < lev):(wL s q).any (fun p=>eqPk p ⟨k,lev⟩) = true↔mxl (wL s q) k = lev:=by
 rw [qD5 h hk,JT h,List.any_eq_true]
 constructor
 ·rintro ⟨p,hp,e⟩
  rw [qu4] at e
  subst e
  have:=(ZY hp).2.1
  rw [Int.toNat_natCast] at this
  exact this.symm
 ·intro e
  exact ⟨⟨k,lev⟩,Qo.2 ⟨k,hk,by omega,by rw [e]⟩,qu4.2 rfl⟩
end Go.Proofs
