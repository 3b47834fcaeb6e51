/- A part of the proof: trees of Go values, short forms, contracts. -/
import Derived.WalkKit
import Derived.Still
import Derived.MapKept
import GoSem.Builtin.Cap
import Derived.Laws.Externs
import GoSem.Extern.SlicesOverlaps
import Derived.Carry
import Derived.ProofKit
import Derived.OpenShut
import Derived.HandedShaped
import Derived.Lay
import Derived.LaidLaws
import Derived.MakeChecks
import Derived.SevenTiedAt
import Derived.Test.YtpmgddadeedmbaaGreatDoorChecked
import Derived.Test.YtpmgddadeedmbaaGreatDoorK16
set_option linter.unusedSimpArgs false
set_option linter.unusedVariables false
namespace Go.Proofs
open Go Go.TL
set_option maxRecDepth 4000
set_option maxHeartbeats 4000000
theorem qd0 (l:List UInt8) (a:Nat) (hl:l.length≤400) (ha:a≤l.length) :
 ∃ r:Sch×Nat,(DrS r.1∧r.2≤l.length)∧Spc Tryz.prog jE [.ptr 0 1 0 0] [(0,oC l a)] (schT r.1) [(0,oC l r.2)]:=by
 obtain ⟨⟨A,a1⟩,⟨dA,ha1⟩,sA⟩:=JO qY5 (.inl rfl) l a hl ha
 obtain ⟨⟨B,a2⟩,⟨dB,ha2⟩,sB⟩:=JO qY6 (.inr rfl) l a1 hl ha1
 dsimp only at dA ha1 sA dB ha2 sB
 have h1:=wq l a2 2 hl ha2 (by omega)
 have b1:=qq9 l a2 2 ha2
 generalize (nx l a2 2).2 = a3 at h1 b1
 generalize oneB l a2 2 = o at h1
 have h2:=ja l a3 1 3 hl b1 (by omega) (by omega)
 have r2:=Qj l a3 (3 - 1 + 1) (by omega)
 have b2:=qq9 l a3 (3 - 1 + 1) b1
 generalize nx l a3 (3 - 1 + 1) = x2 at h2 r2 b2
 obtain ⟨N,hN⟩:=Int.eq_ofNat_of_zero_le (show 0≤1 + x2.1 by omega)
 rw [hN] at h2
 refine zV Yq mixm (fun r:Sch×Nat=>schT r.1) (fun r=>[(0,oC l r.2)]) (by simp) ?_
 unfold kS
 refine sW ?_
 refine XE.mp (fun _ _=>C1.draw 0 l a _ sA rfl rfl rfl) ?_
 refine sW ?_
 refine XE.mp (fun _ _=>C1.draw 0 l a1 _ sB rfl rfl rfl) ?_
 refine sW ?_
 refine XE.mp (fun _ _=>C1.draw 0 l a2 _ h1 rfl rfl rfl) ?_
 refine sW ?_
 refine XE.brB (fun ho=>?_) (fun ho=>?_)
 ·refine XE.mp (fun _ _=>C1.draw 0 l a3 _ h2 rfl rfl rfl) ?_
  refine sW ?_
  refine XE.loopF mixm [4,15] (fun y:List Col×Nat=>y.1.length≤N∧(∀ i (h:i < y.1.length),DrM (3 + i) y.1[i])∧y.2≤l.length) (fun y=>[(4,vI ((N - y.1.length:Nat):Int))]) (fun y=>[(0,oC l y.2),(4096,.arr 2 [schT default] false),(8208,.arr 2 [cdlT A,cdlT B] false),(8220,.arr 7 (([whoC,sexC,jobC] ++ y.1).map colT) false),(8228,.arr 2 [.agg [.asl 8208 2,.asl 8220 (3 + y.1.length)]] false)]) (fun y=>N - y.1.length) ([],x2.2) ⟨by simp,fun i h=>by simp at h,b2⟩ (fun e ⟨_,hst⟩=>?_) fun T' y hy ih=>?_
  ·show Le _ _ ⟨[(4,vI N),(0,_),(2,_),(3,_)],[(0,oC l x2.2),(4096,.arr 2 [schT default] false),(8208,.arr 2 [cdlT A,cdlT B] false),(8220,.arr 7 [colT whoC,colT sexC,colT jobC] false),(8228,.arr 2 [.agg [.asl 8208 2,.asl 8220 3]] false)]⟩
   exact .oA [(0,some 0),(4096,some 4096),(8208,some 8208),(8220,some 8220),(8228,some 8228)] []
  obtain ⟨ms,a4⟩:=y
  obtain ⟨y1,y2,y3⟩:=hy
  dsimp only at y1 y2 y3
  simp only [tZ,↓un_u,simprocAttr,decide_eq_true_eq,decide_eq_false_iff_not]
  refine XE.brN (fun h4=>?_) (fun h4=>?_)
  ·have hlt:ms.length < N:=by omega
   have hI:=qj3 (3 + ms.length) (by omega)
   obtain ⟨⟨M,a5⟩,⟨dM,ha5⟩,sM⟩:=QV (3 + ms.length) l a4 hl y3
   dsimp only at dM ha5 sM
   have hwk:=wQ (i:=N - ms.length) (by omega) (by omega)
   refine XE.sd (by omega) ?_
   refine XE.mp (fun _ _=>C1.im hI (by rfl) (by rfl)) ?_
   simp only [tZ,↓un_u,simprocAttr,qj2]
   refine XE.sd (show 1 + 1≤9223372036854775807 by omega) ?_
   refine XE.mp (fun _ _=>C1.draw 0 l a4 _ sM rfl rfl rfl) ?_
   simp only [tZ,↓un_u,simprocAttr,hwk]
   refine XE.sd (by omega) (XE.sd (by omega) (XE.sd (by kernel_rfl) ?_))
   refine XE.next ih (ms ++ [M],a5) ⟨by simp;omega,fun i h=>?_,ha5⟩ (by simp;omega) fun e ⟨_,hst⟩=>?_
   ·dsimp only at h ⊢
    by_cases hi:i < ms.length
    ·rw [List.getElem_append_left hi]
     exact y2 i hi
    ·have he:i = ms.length:=by rw [List.length_append] at h;simp at h;omega
     subst he
     rw [List.getElem_append_right (Nat.le_refl _)]
     simpa using dM
   ·have e1:N - (ms ++ [M]).length = N - ms.length - 1:=by rw [List.length_append];simp;omega
    simp only [e1]
    exact .oA [(0,some 0),(4096,some 4096),(8208,some 8208),(8220,some 8220),(8228,some 8228)] []
  ·have hnl:ms.length = N:=by omega
   refine XE.fin (⟨[A,B],[whoC,sexC,jobC] ++ ms⟩,a4) ⟨⟨⟨A,B,rfl,dA,dB⟩,⟨ms,.inr ⟨rfl,y2⟩,by omega,by omega⟩⟩,y3⟩ fun e ⟨_,hst⟩=>?_
   refine ⟨by omega,?_⟩
   exact .oA [(0,some 0)] [8208,8220]
 ·refine XE.mp (fun _ _=>C1.draw 0 l a3 _ h2 rfl rfl rfl) ?_
  refine sW ?_
  refine XE.loopF mixm [4,15] (fun y:List Col×Nat=>y.1.length≤N∧(∀ i (h:i < y.1.length),DrM (2 + i) y.1[i])∧y.2≤l.length) (fun y=>[(4,vI ((N - y.1.length:Nat):Int))]) (fun y=>[(0,oC l y.2),(4096,.arr 2 [schT default] false),(8208,.arr 2 [cdlT A,cdlT B] false),(8220,.arr 7 (([whoC,sexC] ++ y.1).map colT) false),(8228,.arr 2 [.agg [.asl 8208 2,.asl 8220 (2 + y.1.length)]] false)]) (fun y=>N - y.1.length) ([],x2.2) ⟨by simp,fun i h=>by simp at h,b2⟩ (fun e ⟨_,hst⟩=>?_) fun T' y hy ih=>?_
  ·show Le _ _ ⟨[(4,vI N),(0,_),(2,_),(3,_)],[(0,oC l x2.2),(4096,.arr 2 [schT default] false),(8208,.arr 2 [cdlT A,cdlT B] false),(8220,.arr 7 [colT whoC,colT sexC] false),(8228,.arr 2 [.agg [.asl 8208 2,.asl 8220 2]] false)]⟩
   exact .oA [(0,some 0),(4096,some 4096),(8208,some 8208),(8220,some 8220),(8228,some 8228)] []
  obtain ⟨ms,a4⟩:=y
  obtain ⟨y1,y2,y3⟩:=hy
  dsimp only at y1 y2 y3
  simp only [tZ,↓un_u,simprocAttr,decide_eq_true_eq,decide_eq_false_iff_not]
  refine XE.brN (fun h4=>?_) (fun h4=>?_)
  ·have hlt:ms.length < N:=by omega
   have hI:=qj3 (2 + ms.length) (by omega)
   obtain ⟨⟨M,a5⟩,⟨dM,ha5⟩,sM⟩:=QV (2 + ms.length) l a4 hl y3
   dsimp only at dM ha5 sM
   have hwk:=wQ (i:=N - ms.length) (by omega) (by omega)
   refine XE.sd (by omega) ?_
   refine XE.mp (fun _ _=>C1.im hI (by rfl) (by rfl)) ?_
   simp only [tZ,↓un_u,simprocAttr,qj2]
   refine XE.sd (show 1 + 1≤9223372036854775807 by omega) ?_
   refine XE.mp (fun _ _=>C1.draw 0 l a4 _ sM rfl rfl rfl) ?_
   simp only [tZ,↓un_u,simprocAttr,hwk]
   refine XE.sd (by omega) (XE.sd (by omega) (XE.sd (by kernel_rfl) ?_))
   refine XE.next ih (ms ++ [M],a5) ⟨by simp;omega,fun i h=>?_,ha5⟩ (by simp;omega) fun e ⟨_,hst⟩=>?_
   ·dsimp only at h ⊢
    by_cases hi:i < ms.length
    ·rw [List.getElem_append_left hi]
     exact y2 i hi
    ·have he:i = ms.length:=by rw [List.length_append] at h;simp at h;omega
     subst he
     rw [List.getElem_append_right (Nat.le_refl _)]
     simpa using dM
   ·have e1:N - (ms ++ [M]).length = N - ms.length - 1:=by rw [List.length_append];simp;omega
    simp only [e1]
    exact .oA [(0,some 0),(4096,some 4096),(8208,some 8208),(8220,some 8220),(8228,some 8228)] []
  ·have hnl:ms.length = N:=by omega
   refine XE.fin (⟨[A,B],[whoC,sexC] ++ ms⟩,a4) ⟨⟨⟨A,B,rfl,dA,dB⟩,⟨ms,.inl ⟨rfl,y2⟩,by omega,by omega⟩⟩,y3⟩ fun e ⟨_,hst⟩=>?_
   refine ⟨by omega,?_⟩
   exact .oA [(0,some 0)] [8208,8220]
end Go.Proofs
namespace Go.Proofs
open Go Go.TL
set_option maxRecDepth 4000
set_option maxHeartbeats 4000000
theorem DrS.col {s:Sch} (h:DrS s) {i:Nat} (hi:i < s.cols.length) (hk:(qg s i).kind = 3):∃ n,DrM n (qg s i):=by
 obtain ⟨ms,hc,h1,h3⟩:=h.cs
 have key:∀ (pre:List Col) (n:Nat),(∀ c∈pre,c.kind≠3)→s.cols = pre ++ ms→(∀ j (hj:j < ms.length),DrM (n + j) ms[j])→∃ n,DrM n (qg s i):=by
  intro pre n hp he hm
  rw [qg,qh hi] at hk ⊢
  by_cases c:i < pre.length
  ·have e:s.cols[i] = pre[i]:=by simp only [he];exact List.getElem_append_left c
   rw [e] at hk
   exact absurd hk (hp _ (List.getElem_mem c))
  ·have hl:i - pre.length < ms.length:=by rw [he,List.length_append] at hi;omega
   have e:s.cols[i] = ms[i - pre.length]:=by simp only [he];exact List.getElem_append_right (by omega)
   rw [e]
   exact ⟨_,hm _ hl⟩
 rcases hc with ⟨hc,hm⟩ | ⟨hc,hm⟩
 ·exact key [whoC,sexC] 2 (by simp [whoC,sexC]) (by rw [hc];rfl) hm
 ·exact key [whoC,sexC,jobC] 3 (by simp [whoC,sexC,jobC]) (by rw [hc];rfl) hm
theorem DrS.nl {s:Sch} (h:DrS s):s.lists.length = 2:=by
 obtain ⟨a,b,e,_⟩:=h.ls
 rw [e];rfl
structure DrX (x:Src):Prop where
 sch:DrS x.sch
 ok:SrcOk x
 gone:x.gone = []
 ver:x.ver = 0
end Go.Proofs
namespace Go.Proofs
open Go Go.TL
set_option maxRecDepth 4000
set_option maxHeartbeats 4000000
def Kw (s:Sch) (kind:Int) (n:Nat):List Int:=List.map (fun i:Nat=>(i:Int)) ((List.range n).filter fun i=>(qg s i).kind == kind)
theorem jR (s:Sch) (kind:Int) (n:Nat):Kw s kind (n + 1) = Kw s kind n ++ (if (qg s n).kind = kind then [(n:Int)] else []):=by
 unfold Kw
 rw [List.range_succ,List.filter_append,List.map_append]
 congr 1
 by_cases h:(qg s n).kind = kind
 ·rw [if_pos h,List.filter_cons,if_pos (beq_iff_eq.2 h)];rfl
 ·rw [if_neg h,List.filter_cons,if_neg (by rw [beq_iff_eq];exact h)];rfl
theorem qj4 (s:Sch) (kind:Int) (n:Nat):(Kw s kind n).length≤n:=by
 unfold Kw
 rw [List.length_map]
 exact Nat.le_trans (List.length_filter_le _ _) (by simp)
def Ju (s:Sch) (kind:Int):List Int:=Kw s kind s.cols.length
theorem ZJ {s:Sch} {kind v:Int}:v∈Ju s kind↔isB s v kind = true:=by
 unfold Ju Kw
 rw [jd]
 simp only [List.mem_map,List.mem_filter,List.mem_range,beq_iff_eq]
 constructor
 ·rintro ⟨i,⟨h1,h2⟩,rfl⟩;exact ⟨by omega,by omega,by rw [Int.toNat_natCast];exact h2⟩
 ·rintro ⟨h1,h2,h3⟩;exact ⟨v.toNat,⟨by omega,h3⟩,by omega⟩
theorem Qn (s:Sch) (kind:Int) (hn:s.cols.length≤1000):Spc Tryz.prog jQ [schT s,vI kind] [] (vIs (Ju s kind)) []:=by
 refine qd qz7 mixm (by simp) fun e _ hst=>qk ?_
 unfold ZC
 refine sW ?_
 refine qy mixm (α:=Nat) [5,10] (fun i=>i≤s.cols.length) (fun i=>[(5,.asl 1 (Kw s kind i).length),(10,vI i)]) (fun i=>[(4096,.arr 2 [schT s] false),(1,.arr 1 ((Kw s kind i).map vI) false)]) (fun i=>s.cols.length - i) 0 (by omega) ?_ fun i hi=>?_
 ·show Le _ _ ⟨_,[(4096,.arr 2 [schT s] false),(1,.arr 1 [] false)]⟩
  exact .oA [(4096,some 4096),(1,none)] []
 have hfl:=qj4 s kind i
 refine sD ?_
 refine ⟨fun h=>?_,fun h=>?_⟩
 ·have hi2:i < s.cols.length:=by omega
  have hwi:=qj (i:=i) (by omega)
  have hat:qg s i = s.cols[i]:=by rw [qg,qh hi2]
  have hsu:=jR s kind i
  rw [hat] at hsu
  simp only [tZ,↓un_u,simprocAttr,Int.toNat_natCast,qe hi2,hwi,beq_iff_eq,beq_eq_false_iff_ne]
  refine ⟨by omega,fun h2=>?_,fun h2=>?_⟩
  ·rw [if_pos h2] at hsu
   refine ⟨by omega,i + 1,by omega,by omega,?_⟩
   rw [hsu]
   exact .oA [(4096,some 4096),(1,some 1)] []
  ·rw [if_neg h2,List.append_nil] at hsu
   refine ⟨i + 1,by omega,by omega,?_⟩
   rw [hsu]
   exact .oA [(4096,some 4096),(1,some 1)] []
 ·have hil:i = s.cols.length:=by omega
  subst hil
  exact .oA [] [1]
theorem DrS.code {s:Sch} (h:DrS s):0 < (Ju s 2).length∧(Ju s 2).length≤8:=by
 have hnc:=(qW h.ok).nc
 have hl:=qj4 s 2 s.cols.length
 refine ⟨List.length_pos_of_mem (a:=1) (ZJ.2 (jd.2 ?_)),by unfold Ju;omega⟩
 obtain ⟨ms,hc,h1,h3⟩:=h.cs
 rcases hc with ⟨hc,hm⟩ | ⟨hc,hm⟩
 ·refine ⟨by omega,by rw [hc];simp;omega,by rw [qg,hc];rfl⟩
 ·refine ⟨by omega,by rw [hc];simp;omega,by rw [qg,hc];rfl⟩
theorem DrS.meas {s:Sch} (h:DrS s):0 < (Ju s 3).length∧(Ju s 3).length≤8:=by
 have hnc:=(qW h.ok).nc
 have hl:=qj4 s 3 s.cols.length
 refine ⟨?_,by unfold Ju;omega⟩
 obtain ⟨ms,hc,h1,h3⟩:=h.cs
 rcases hc with ⟨hc,hm⟩ | ⟨hc,hm⟩
 ·refine List.length_pos_of_mem (a:=2) (ZJ.2 (jd.2 ⟨by omega,by rw [hc];simp;omega,?_⟩))
  have:=(hm 0 h1).kind
  rw [qg,hc]
  show ((whoC :: sexC :: ms).getD 2 default).kind = 3
  rw [qh (by simp;omega)]
  exact this
 ·refine List.length_pos_of_mem (a:=3) (ZJ.2 (jd.2 ⟨by omega,by rw [hc];simp;omega,?_⟩))
  have:=(hm 0 h1).kind
  rw [qg,hc]
  show ((whoC :: sexC :: jobC :: ms).getD 3 default).kind = 3
  rw [qh (by simp;omega)]
  exact this
theorem zK6 (s:Sch) (hd:DrS s) (l:List UInt8) (a:Nat) (hl:l.length≤400) (ha:a≤l.length) :
 ∃ (v:Nat) (b:Nat),isB s v 2 = true∧b≤l.length∧Spc Tryz.prog wW [.ptr 0 1 0 0,schT s] [(0,oC l a)] (vI v) [(0,oC l b)]:=by
 have hnc:=(qW hd.ok).nc
 have hc:=Qn s 2 (by omega)
 have hm:=fun v=>(ZJ (s:=s) (kind:=2) (v:=v)).1
 obtain ⟨k1,k2⟩:=hd.code
 generalize Ju s 2 = L at hc hm k1 k2
 obtain ⟨j,b,j1,j2,hb,sN⟩:=yx l a L.length hl ha (by omega)
 obtain ⟨m,rfl⟩:=Int.eq_ofNat_of_zero_le j1
 have hmL:m < L.length:=by omega
 have hv:=hm _ (List.getElem_mem hmL)
 obtain ⟨v,e⟩:=Int.eq_ofNat_of_zero_le (jd.1 hv).1
 refine ⟨v,b,by rw [← e];exact hv,hb,?_⟩
 rw [← e]
 refine qd qb7 mixm (by simp) fun e _ hst=>qk ?_
 unfold wC
 refine sW ?_
 refine C1.im hc (by rfl) (by rfl) ?_
 refine sW ?_
 refine C1.draw 0 l a _ sN rfl rfl rfl ?_
 simp only [tZ,↓un_u,simprocAttr,Int.toNat_natCast,qe hmL]
 refine ⟨by omega,?_⟩
 exact .oA [(0,some 0)] []
theorem Qe (s:Sch) (hd:DrS s) (l:List UInt8) (a:Nat) (hl:l.length≤400) (ha:a≤l.length) :
 ∃ (v:Nat) (b:Nat),isB s v 3 = true∧b≤l.length∧Spc Tryz.prog zn [.ptr 0 1 0 0,schT s] [(0,oC l a)] (vI v) [(0,oC l b)]:=by
 have hnc:=(qW hd.ok).nc
 have hc:=Qn s 3 (by omega)
 have hm:=fun v=>(ZJ (s:=s) (kind:=3) (v:=v)).1
 obtain ⟨k1,k2⟩:=hd.meas
 generalize Ju s 3 = L at hc hm k1 k2
 obtain ⟨j,b,j1,j2,hb,sN⟩:=yx l a L.length hl ha (by omega)
 obtain ⟨m,rfl⟩:=Int.eq_ofNat_of_zero_le j1
 have hmL:m < L.length:=by omega
 have hv:=hm _ (List.getElem_mem hmL)
 obtain ⟨v,e⟩:=Int.eq_ofNat_of_zero_le (jd.1 hv).1
 refine ⟨v,b,by rw [← e];exact hv,hb,?_⟩
 rw [← e]
 refine qd KR mixm (by simp) fun e _ hst=>qk ?_
 unfold jY
 refine sW ?_
 refine C1.im hc (by rfl) (by rfl) ?_
 refine sW ?_
 refine C1.draw 0 l a _ sN rfl rfl rfl ?_
 simp only [tZ,↓un_u,simprocAttr,Int.toNat_natCast,qe hmL]
 refine ⟨by omega,?_⟩
 exact .oA [(0,some 0)] []
end Go.Proofs
namespace Go.Proofs
open Go Go.TL
set_option maxRecDepth 4000
set_option maxHeartbeats 8000000
mutual
def sizC:Cnd→Nat
 | .mk _ _ _ _ _ ks=>qj5 ks + 1
def qj5:List Cnd→Nat
 | []=>0
 | k :: r=>sizC k + qj5 r
end
theorem qO7 (c:Cnd):sizC c = qj5 c.kids + 1:=by cases c;rw [sizC];rfl
theorem jg2:∀ c,∀ m,1≤m→cntC c m≤sizC c:=by
 refine Cnd.ind' fun c ih m hm=>?_
 rw [qc6,qO7]
 have key:∀ l:List Cnd,(∀ k∈l,k∈c.kids)→∀ n,n≤m→yu l m n≤n + qj5 l:=by
  intro l
  induction l with
  | nil=>intro _ n h;rw [yu,qj5];omega
  | cons k r ihl=>
    intro hk n h
    rw [yu,qj5]
    split
    ·have c1:=qB6 k (m - n) (by omega)
     have c2:=ih k (hk k (by simp)) (m - n) (by omega)
     have c3:=ihl (fun x hx=>hk x (List.mem_cons_of_mem _ hx)) (n + cntC k (m - n)) (by omega)
     omega
    ·omega
 have:=key c.kids (fun k hk=>hk) 1 (by omega)
 omega
structure CndOk (s:Sch) (n:Nat) (c:Cnd):Prop where
 ok:nodE s c = 0
 dep:depC c≤n + 1
 siz:sizC c + 1≤2 ^ (n + 1)
theorem CndOk.chk {s:Sch} {n:Nat} {c:Cnd} (h:CndOk s n c) (hE:schE s = 0) (hn:n≤3):chkC s c = 0:=by
 have h1:=jg2 c 41 (by omega)
 have h2:=h.siz
 have h3:=h.dep
 have h4:2 ^ (n + 1)≤2 ^ 4:=Nat.pow_le_pow_right (by omega) (by omega)
 rw [chkC,if_neg (by rw [hE];simp),if_neg (by omega),if_neg (by omega)]
 exact h.ok
theorem zf1 {s:Sch} {c:Cnd} (h1:ndE s c = 0) (h2:QT s c.kids = 0):nodE s c = 0:=by rw [zf0,if_neg (by rw [h1];simp)];exact h2
theorem wG {s:Sch} {c:Cnd} (n:Nat) (h1:ndE s c = 0) (h2:c.kids = []):CndOk s n c:=by
 have h3:2 ^ 1≤2 ^ (n + 1):=Nat.pow_le_pow_right (by omega) (by omega)
 refine ⟨zf1 h1 (by rw [h2,QT]),by rw [qB4,h2,wF];omega,by rw [qO7,h2,qj5];omega⟩
theorem zK7 {s:Sch} {c:Cnd} (h1:¬ (c.op < 1∨7 < c.op)) (h2:¬ (c.kids.length≠arC c.op∨(c.op≠2∧c.op≠3∧c.op≠4∧c.col≠0)∨(c.op≠2∧c.code≠0)∨(c.op≠3∧(c.lo≠0∨c.hi≠0))))
 (h3:¬ ((c.op = 2∧isB s c.col 2 = false)∨(c.op = 3∧isB s c.col 3 = false)∨(c.op = 4∧(isB s c.col 3 = false∨(qg s c.col.toNat).opt = false))))
 (h4:¬ (c.op = 2∧(c.code < 0∨c.code≥(qE s c.col.toNat).codes.length))) (h5:¬ (c.op = 3∧(c.lo < -1000000∨c.hi > 1000000∨c.lo > c.hi))):ndE s c = 0:=by
 rw [ndE,if_neg h1,if_neg h2,if_neg h3,if_neg h4,if_neg h5]
theorem qC6 (s:Sch):ndE s (.mk 1 0 0 0 0 []) = 0:=zK7 (by simp [Cnd.op,Cnd.col,Cnd.code,Cnd.lo,Cnd.hi,Cnd.kids]) (by simp [arC,Cnd.op,Cnd.col,Cnd.code,Cnd.lo,Cnd.hi,Cnd.kids]) (by simp [Cnd.op,Cnd.col,Cnd.code,Cnd.lo,Cnd.hi,Cnd.kids]) (by simp [Cnd.op,Cnd.col,Cnd.code,Cnd.lo,Cnd.hi,Cnd.kids]) (by simp [Cnd.op,Cnd.col,Cnd.code,Cnd.lo,Cnd.hi,Cnd.kids])
theorem zp6 {s:Sch} {v:Nat} {k:Int} (h:isB s v 2 = true) (h1:0≤k) (h2:k < (qE s v).codes.length):ndE s (.mk 2 v k 0 0 []) = 0:=
 zK7 (by simp [Cnd.op,Cnd.col,Cnd.code,Cnd.lo,Cnd.hi,Cnd.kids]) (by simp [arC,Cnd.op,Cnd.col,Cnd.code,Cnd.lo,Cnd.hi,Cnd.kids]) (by simp [Cnd.op,Cnd.col,Cnd.code,Cnd.lo,Cnd.hi,Cnd.kids,h]) (by simp only [Cnd.op,Cnd.col,Cnd.code,Cnd.lo,Cnd.hi,Cnd.kids,Int.toNat_natCast];omega) (by simp [Cnd.op,Cnd.col,Cnd.code,Cnd.lo,Cnd.hi,Cnd.kids])
theorem Yi {s:Sch} {v:Nat} {a b:Int} (h:isB s v 3 = true) (h1 : -1000000≤a) (h2:b≤1000000) (h3:a≤b):ndE s (.mk 3 v 0 a b []) = 0:=
 zK7 (by simp [Cnd.op,Cnd.col,Cnd.code,Cnd.lo,Cnd.hi,Cnd.kids]) (by simp [arC,Cnd.op,Cnd.col,Cnd.code,Cnd.lo,Cnd.hi,Cnd.kids]) (by simp [Cnd.op,Cnd.col,Cnd.code,Cnd.lo,Cnd.hi,Cnd.kids,h]) (by simp [Cnd.op,Cnd.col,Cnd.code,Cnd.lo,Cnd.hi,Cnd.kids]) (by simp only [Cnd.op,Cnd.col,Cnd.code,Cnd.lo,Cnd.hi,Cnd.kids];omega)
theorem zK8 {s:Sch} {v:Nat} (h:isB s v 3 = true) (h1:(qg s v).opt = true):ndE s (.mk 4 v 0 0 0 []) = 0:=
 zK7 (by simp [Cnd.op,Cnd.col,Cnd.code,Cnd.lo,Cnd.hi,Cnd.kids]) (by simp [arC,Cnd.op,Cnd.col,Cnd.code,Cnd.lo,Cnd.hi,Cnd.kids]) (by simp only [Cnd.op,Cnd.col,Cnd.code,Cnd.lo,Cnd.hi,Cnd.kids,Int.toNat_natCast,h,h1];simp) (by simp [Cnd.op,Cnd.col,Cnd.code,Cnd.lo,Cnd.hi,Cnd.kids]) (by simp [Cnd.op,Cnd.col,Cnd.code,Cnd.lo,Cnd.hi,Cnd.kids])
theorem zK9 {s:Sch} {op:Int} {ks:List Cnd} (h:op = 5∨op = 6∨op = 7) (hk:ks.length = arC op):ndE s (.mk op 0 0 0 0 ks) = 0:=
 zK7 (by simp only [Cnd.op,Cnd.col,Cnd.code,Cnd.lo,Cnd.hi,Cnd.kids];omega) (by simp [Cnd.op,Cnd.col,Cnd.code,Cnd.lo,Cnd.hi,Cnd.kids,hk]) (by simp only [Cnd.op,Cnd.col,Cnd.code,Cnd.lo,Cnd.hi,Cnd.kids];omega) (by simp only [Cnd.op,Cnd.col,Cnd.code,Cnd.lo,Cnd.hi,Cnd.kids];omega) (by simp only [Cnd.op,Cnd.col,Cnd.code,Cnd.lo,Cnd.hi,Cnd.kids];omega)
theorem jl5 {s:Sch} {n:Nat} {c:Cnd} (h:CndOk s n c):CndOk s (n + 1) (.mk 7 0 0 0 0 [c]):=by
 have h1:=h.dep
 have h2:=h.siz
 have h3:2 ^ (n + 1 + 1) = 2 * 2 ^ (n + 1):=by rw [Nat.pow_succ];omega
 refine ⟨zf1 (zK9 (.inr (.inr rfl)) rfl) ?_,?_,?_⟩
 ·show QT s [c] = 0
  rw [QT,if_neg (by rw [h.ok];simp),QT]
 ·rw [qB4];show wF [c] + 1≤_
  rw [wF,wF];omega
 ·rw [qO7];show qj5 [c] + 1 + 1≤_
  rw [qj5,qj5];omega
theorem jb1 {s:Sch} {n:Nat} {c d:Cnd} {op:Int} (ho:op = 5∨op = 6) (h:CndOk s n c) (g:CndOk s n d):CndOk s (n + 1) (.mk op 0 0 0 0 [c,d]):=by
 have h1:=h.dep
 have h2:=h.siz
 have g1:=g.dep
 have g2:=g.siz
 have h3:2 ^ (n + 1 + 1) = 2 * 2 ^ (n + 1):=by rw [Nat.pow_succ];omega
 refine ⟨zf1 (zK9 (by omega) (by rcases ho with h | h <;> subst h <;> rfl)) ?_,?_,?_⟩
 ·show QT s [c,d] = 0
  rw [QT,if_neg (by rw [h.ok];simp),QT,if_neg (by rw [g.ok];simp),QT]
 ·rw [qB4];show wF [c,d] + 1≤_
  rw [wF,wF,wF];omega
 ·rw [qO7];show qj5 [c,d] + 1 + 1≤_
  rw [qj5,qj5,qj5];omega
theorem Qf (s:Sch) (hd:DrS s) (l:List UInt8) (hl:l.length≤400):∀ (n:Nat) (a:Nat),a≤l.length→n≤3→
 ∃ r:Cnd×Nat,(CndOk s n r.1∧r.2≤l.length)∧Spc Tryz.prog qT [.ptr 0 1 0 0,schT s,vI n] [(0,oC l a)] (cnT r.1) [(0,oC l r.2)]:=by
 have hE:=hd.ok
 have hok:=qW hE
 have hnc:=hok.nc
 have hat:∀ i (h:i < s.cols.length),qg s i = s.cols[i]:=fun i h=>by rw [qg,qh h]
 have hnl:=hd.nl
 intro n
 induction n with
 | zero=>
   intro a ha _
   refine zV ZW mixm (fun r:Cnd×Nat=>cnT r.1) (fun r=>[(0,oC l r.2)]) (by simp) ?_
   unfold kh
   have hz:decide (((0:Nat):Int) > 0) = false:=rfl
   simp only [tZ,↓un_u,simprocAttr,hz]
   obtain ⟨b,hb2⟩:∃ b,b = a:=⟨_,rfl⟩
   rw [← hb2]
   have hb:b≤l.length:=by omega
   obtain ⟨j2,b2,u1,u2,hb2,sN2⟩:=yx l b 5 hl hb (by omega)
   refine XE.mp (fun _ _=>C1.draw 0 l b _ sN2 rfl rfl rfl) ?_
   simp only [tZ,↓un_u,simprocAttr,beq_iff_eq,beq_eq_false_iff_ne]
   refine XE.brN (fun h1=>?_) (fun h1=>?_)
   ·obtain ⟨v,b3,hv,hb3,sV⟩:=zK6 s hd l b2 hl hb2
    obtain ⟨_,v2,v3⟩:=jd.1 hv
    rw [Int.toNat_natCast] at v3
    have hil:v < s.cols.length:=by omega
    obtain ⟨d1,d2⟩:=hok.cdl hil v3
    obtain ⟨d3,d4⟩:=(ze (hok.cs v hil)).2.2.2.1 v3
    have hcl:qE s v = s.lists.getD s.cols[v].list.toNat default:=by rw [qE,hat v hil]
    have hnd:=fun k=>zp6 (k:=k) hv
    rw [hat v hil] at d1 d3 d4
    rw [hcl,qh d1] at d2 hnd
    obtain ⟨_,d5,d6⟩:=zr d2
    obtain ⟨w,b4,w1,w2,hb4,sQ⟩:=yx l b3 s.lists[s.cols[v].list.toNat].codes.length hl hb3 (by omega)
    refine XE.mp (fun _ _=>C1.draw 0 l b2 _ sV rfl rfl rfl) ?_
    simp only [tZ,↓un_u,simprocAttr,Int.toNat_natCast,qe hil,qe d1]
    refine XE.sd (by omega) (XE.sd (by omega) ?_)
    refine XE.mp (fun _ _=>C1.draw 0 l b3 _ sQ rfl rfl rfl) ?_
    refine sW ?_
    refine XE.sd (by kernel_rfl) ?_
    refine XE.fin (.mk 2 v w 0 0 [],b4) ⟨wG _ (hnd w w1 w2) rfl,hb4⟩ fun e ⟨_,hst⟩=>?_
    exact .oA [(0,some 0)] []
   ·refine XE.brN (fun h2=>?_) (fun h2=>?_)
    ·refine XE.brN (fun _=>?_) (fun k=>absurd h2 k)
     obtain ⟨v,b3,hv,hb3,sV⟩:=Qe s hd l b2 hl hb2
     obtain ⟨_,v2,v3⟩:=jd.1 hv
     rw [Int.toNat_natCast] at v3
     have hil:v < s.cols.length:=by omega
     obtain ⟨_,hM⟩:=hd.col hil v3
     have hlo:=hM.low
     rw [hat v hil] at hlo
     obtain ⟨w,b4,w1,w2,hb4,sQ⟩:=WQ l b3 (-3) 40 hl hb3 (by omega) (by omega)
     obtain ⟨z,b5,z1,z2,hb5,sZ⟩:=yx l b4 30 hl hb4 (by omega)
     have hw1:IntKind.i64.wrap (s.cols[v].low + w) = s.cols[v].low + w:=IntWalk.i64_in _ (by omega)
     have hw2:IntKind.i64.wrap (s.cols[v].low + w + z) = s.cols[v].low + w + z:=IntWalk.i64_in _ (by omega)
     refine XE.mp (fun _ _=>C1.draw 0 l b2 _ sV rfl rfl rfl) ?_
     simp only [tZ,↓un_u,simprocAttr,Int.toNat_natCast,qe hil]
     refine XE.sd (by omega) ?_
     refine XE.mp (fun _ _=>C1.draw 0 l b3 _ sQ rfl rfl rfl) ?_
     simp only [tZ,↓un_u,simprocAttr,hw1]
     refine XE.sd (by kernel_rfl) ?_
     refine XE.mp (fun _ _=>C1.draw 0 l b4 _ sZ rfl rfl rfl) ?_
     simp only [tZ,↓un_u,simprocAttr,hw2]
     refine XE.fin (.mk 3 v 0 (s.cols[v].low + w) (s.cols[v].low + w + z) [],b5) ⟨wG _ (Yi hv (by omega) (by omega) (by omega)) rfl,hb5⟩ fun e ⟨_,hst⟩=>?_
     exact .oA [(0,some 0)] []
    ·refine XE.brN (fun h3=>?_) (fun h3=>?_)
     ·obtain ⟨v,b3,hv,hb3,sV⟩:=Qe s hd l b2 hl hb2
      obtain ⟨_,v2,v3⟩:=jd.1 hv
      rw [Int.toNat_natCast] at v3
      have hil:v < s.cols.length:=by omega
      obtain ⟨_,hM⟩:=hd.col hil v3
      have hlo:=hM.low
      rw [hat v hil] at hlo
      obtain ⟨w,b4,w1,w2,hb4,sQ⟩:=WQ l b3 (-3) 40 hl hb3 (by omega) (by omega)
      obtain ⟨z,b5,z1,z2,hb5,sZ⟩:=yx l b4 30 hl hb4 (by omega)
      have hw1:IntKind.i64.wrap (s.cols[v].low + w) = s.cols[v].low + w:=IntWalk.i64_in _ (by omega)
      have hw2:IntKind.i64.wrap (s.cols[v].low + w + z) = s.cols[v].low + w + z:=IntWalk.i64_in _ (by omega)
      refine XE.mp (fun _ _=>C1.draw 0 l b2 _ sV rfl rfl rfl) ?_
      simp only [tZ,↓un_u,simprocAttr,Int.toNat_natCast,qe hil]
      refine XE.sd (by omega) ?_
      refine XE.mp (fun _ _=>C1.draw 0 l b3 _ sQ rfl rfl rfl) ?_
      simp only [tZ,↓un_u,simprocAttr,hw1]
      refine XE.sd (by kernel_rfl) ?_
      refine XE.mp (fun _ _=>C1.draw 0 l b4 _ sZ rfl rfl rfl) ?_
      simp only [tZ,↓un_u,simprocAttr,hw2]
      refine XE.fin (.mk 3 v 0 (s.cols[v].low + w) (s.cols[v].low + w + z) [],b5) ⟨wG _ (Yi hv (by omega) (by omega) (by omega)) rfl,hb5⟩ fun e ⟨_,hst⟩=>?_
      exact .oA [(0,some 0)] []
     ·refine XE.brN (fun h4=>?_) (fun h4=>?_)
      ·obtain ⟨v,b3,hv,hb3,sV⟩:=Qe s hd l b2 hl hb2
       obtain ⟨_,v2,v3⟩:=jd.1 hv
       rw [Int.toNat_natCast] at v3
       have hil:v < s.cols.length:=by omega
       refine XE.mp (fun _ _=>C1.draw 0 l b2 _ sV rfl rfl rfl) ?_
       simp only [tZ,↓un_u,simprocAttr,Int.toNat_natCast,qe hil]
       refine XE.sd (by omega) ?_
       refine XE.brB (fun h5=>?_) (fun h5=>?_)
       ·refine XE.fin (.mk 4 v 0 0 0 [],b3) ⟨wG _ (zK8 hv (by rw [hat v hil];exact h5)) rfl,hb3⟩ fun e ⟨_,hst⟩=>?_
        exact .oA [(0,some 0)] []
       ·refine XE.fin (.mk 1 0 0 0 0 [],b3) ⟨wG _ (qC6 s) rfl,hb3⟩ fun e ⟨_,hst⟩=>?_
        exact .oA [(0,some 0)] []
      ·refine XE.fin (.mk 1 0 0 0 0 [],b2) ⟨wG _ (qC6 s) rfl,hb2⟩ fun e ⟨_,hst⟩=>?_
       exact .oA [(0,some 0)] []
 | succ n ih=>
   intro a ha hn
   have hz:decide (((n + 1:Nat):Int) > 0) = true:=decide_eq_true (by omega)
   have hwp:IntKind.i64.wrap (((n + 1:Nat):Int) - 1) = n:=by rw [IntWalk.i64_in _ (by omega)];omega
   obtain ⟨j,b,j1,j2,hb,sN⟩:=yx l a 5 hl ha (by omega)
   obtain ⟨⟨c1,b1⟩,⟨hc1,hb1⟩,sC1⟩:=ih b hb (by omega)
   dsimp only at hc1 hb1 sC1
   obtain ⟨⟨c2,b2⟩,⟨hc2,hb2⟩,sC2⟩:=ih b1 hb1 (by omega)
   dsimp only at hc2 hb2 sC2
   refine zV ZW mixm (fun r:Cnd×Nat=>cnT r.1) (fun r=>[(0,oC l r.2)]) (by simp) ?_
   unfold kh
   simp only [tZ,↓un_u,simprocAttr,hz]
   refine XE.mp (fun _ _=>C1.draw 0 l a _ sN rfl rfl rfl) ?_
   simp only [tZ,↓un_u,simprocAttr,hwp,beq_iff_eq,beq_eq_false_iff_ne]
   refine XE.brN (fun h2=>?_) (fun h2=>XE.brN (fun h3=>?_) (fun h3=>XE.brN (fun h4=>?_) (fun h4=>?_)))
   ·refine XE.mp (fun _ _=>C1.draw 0 l b _ sC1 rfl rfl rfl) ?_
    refine sW ?_
    refine XE.fin (.mk 7 0 0 0 0 [c1],b1) ⟨jl5 hc1,hb1⟩ fun e ⟨_,hst⟩=>?_
    show Zp _ _ _ (.agg [vI 7,vI 0,vI 0,vI 0,vI 0,.sl 6 [cndT c1]]) _
    rw [kg]
    exact .oA [(0,some 0)] [20500]
   ·refine XE.mp (fun _ _=>C1.draw 0 l b _ sC1 rfl rfl rfl) ?_
    simp only [tZ,↓un_u,simprocAttr,hwp]
    refine XE.mp (fun _ _=>C1.draw 0 l b1 _ sC2 rfl rfl rfl) ?_
    refine sW ?_
    refine XE.sd (by kernel_rfl) ?_
    refine XE.fin (.mk 5 0 0 0 0 [c1,c2],b2) ⟨jb1 (by omega) hc1 hc2,hb2⟩ fun e ⟨_,hst⟩=>?_
    show Zp _ _ _ (.agg [vI 5,vI 0,vI 0,vI 0,vI 0,.sl 6 [cndT c1,cndT c2]]) _
    rw [kg,kg]
    exact .oA [(0,some 0)] [28712]
   ·refine XE.mp (fun _ _=>C1.draw 0 l b _ sC1 rfl rfl rfl) ?_
    simp only [tZ,↓un_u,simprocAttr,hwp]
    refine XE.mp (fun _ _=>C1.draw 0 l b1 _ sC2 rfl rfl rfl) ?_
    refine sW ?_
    refine XE.sd (by kernel_rfl) ?_
    refine XE.fin (.mk 6 0 0 0 0 [c1,c2],b2) ⟨jb1 (by omega) hc1 hc2,hb2⟩ fun e ⟨_,hst⟩=>?_
    show Zp _ _ _ (.agg [vI 6,vI 0,vI 0,vI 0,vI 0,.sl 6 [cndT c1,cndT c2]]) _
    rw [kg,kg]
    exact .oA [(0,some 0)] [36904]
   ·obtain ⟨j2,b2,u1,u2,hb2,sN2⟩:=yx l b 5 hl hb (by omega)
    refine XE.mp (fun _ _=>C1.draw 0 l b _ sN2 rfl rfl rfl) ?_
    simp only [tZ,↓un_u,simprocAttr,beq_iff_eq,beq_eq_false_iff_ne]
    refine XE.brN (fun h1=>?_) (fun h1=>?_)
    ·obtain ⟨v,b3,hv,hb3,sV⟩:=zK6 s hd l b2 hl hb2
     obtain ⟨_,v2,v3⟩:=jd.1 hv
     rw [Int.toNat_natCast] at v3
     have hil:v < s.cols.length:=by omega
     obtain ⟨d1,d2⟩:=hok.cdl hil v3
     obtain ⟨d3,d4⟩:=(ze (hok.cs v hil)).2.2.2.1 v3
     have hcl:qE s v = s.lists.getD s.cols[v].list.toNat default:=by rw [qE,hat v hil]
     have hnd:=fun k=>zp6 (k:=k) hv
     rw [hat v hil] at d1 d3 d4
     rw [hcl,qh d1] at d2 hnd
     obtain ⟨_,d5,d6⟩:=zr d2
     obtain ⟨w,b4,w1,w2,hb4,sQ⟩:=yx l b3 s.lists[s.cols[v].list.toNat].codes.length hl hb3 (by omega)
     refine XE.mp (fun _ _=>C1.draw 0 l b2 _ sV rfl rfl rfl) ?_
     simp only [tZ,↓un_u,simprocAttr,Int.toNat_natCast,qe hil,qe d1]
     refine XE.sd (by omega) (XE.sd (by omega) ?_)
     refine XE.mp (fun _ _=>C1.draw 0 l b3 _ sQ rfl rfl rfl) ?_
     refine sW ?_
     refine XE.sd (by kernel_rfl) ?_
     refine XE.fin (.mk 2 v w 0 0 [],b4) ⟨wG _ (hnd w w1 w2) rfl,hb4⟩ fun e ⟨_,hst⟩=>?_
     exact .oA [(0,some 0)] []
    ·refine XE.brN (fun h2=>?_) (fun h2=>?_)
     ·refine XE.brN (fun _=>?_) (fun k=>absurd h2 k)
      obtain ⟨v,b3,hv,hb3,sV⟩:=Qe s hd l b2 hl hb2
      obtain ⟨_,v2,v3⟩:=jd.1 hv
      rw [Int.toNat_natCast] at v3
      have hil:v < s.cols.length:=by omega
      obtain ⟨_,hM⟩:=hd.col hil v3
      have hlo:=hM.low
      rw [hat v hil] at hlo
      obtain ⟨w,b4,w1,w2,hb4,sQ⟩:=WQ l b3 (-3) 40 hl hb3 (by omega) (by omega)
      obtain ⟨z,b5,z1,z2,hb5,sZ⟩:=yx l b4 30 hl hb4 (by omega)
      have hw1:IntKind.i64.wrap (s.cols[v].low + w) = s.cols[v].low + w:=IntWalk.i64_in _ (by omega)
      have hw2:IntKind.i64.wrap (s.cols[v].low + w + z) = s.cols[v].low + w + z:=IntWalk.i64_in _ (by omega)
      refine XE.mp (fun _ _=>C1.draw 0 l b2 _ sV rfl rfl rfl) ?_
      simp only [tZ,↓un_u,simprocAttr,Int.toNat_natCast,qe hil]
      refine XE.sd (by omega) ?_
      refine XE.mp (fun _ _=>C1.draw 0 l b3 _ sQ rfl rfl rfl) ?_
      simp only [tZ,↓un_u,simprocAttr,hw1]
      refine XE.sd (by kernel_rfl) ?_
      refine XE.mp (fun _ _=>C1.draw 0 l b4 _ sZ rfl rfl rfl) ?_
      simp only [tZ,↓un_u,simprocAttr,hw2]
      refine XE.fin (.mk 3 v 0 (s.cols[v].low + w) (s.cols[v].low + w + z) [],b5) ⟨wG _ (Yi hv (by omega) (by omega) (by omega)) rfl,hb5⟩ fun e ⟨_,hst⟩=>?_
      exact .oA [(0,some 0)] []
     ·refine XE.brN (fun h3=>?_) (fun h3=>?_)
      ·obtain ⟨v,b3,hv,hb3,sV⟩:=Qe s hd l b2 hl hb2
       obtain ⟨_,v2,v3⟩:=jd.1 hv
       rw [Int.toNat_natCast] at v3
       have hil:v < s.cols.length:=by omega
       obtain ⟨_,hM⟩:=hd.col hil v3
       have hlo:=hM.low
       rw [hat v hil] at hlo
       obtain ⟨w,b4,w1,w2,hb4,sQ⟩:=WQ l b3 (-3) 40 hl hb3 (by omega) (by omega)
       obtain ⟨z,b5,z1,z2,hb5,sZ⟩:=yx l b4 30 hl hb4 (by omega)
       have hw1:IntKind.i64.wrap (s.cols[v].low + w) = s.cols[v].low + w:=IntWalk.i64_in _ (by omega)
       have hw2:IntKind.i64.wrap (s.cols[v].low + w + z) = s.cols[v].low + w + z:=IntWalk.i64_in _ (by omega)
       refine XE.mp (fun _ _=>C1.draw 0 l b2 _ sV rfl rfl rfl) ?_
       simp only [tZ,↓un_u,simprocAttr,Int.toNat_natCast,qe hil]
       refine XE.sd (by omega) ?_
       refine XE.mp (fun _ _=>C1.draw 0 l b3 _ sQ rfl rfl rfl) ?_
       simp only [tZ,↓un_u,simprocAttr,hw1]
       refine XE.sd (by kernel_rfl) ?_
       refine XE.mp (fun _ _=>C1.draw 0 l b4 _ sZ rfl rfl rfl) ?_
       simp only [tZ,↓un_u,simprocAttr,hw2]
       refine XE.fin (.mk 3 v 0 (s.cols[v].low + w) (s.cols[v].low + w + z) [],b5) ⟨wG _ (Yi hv (by omega) (by omega) (by omega)) rfl,hb5⟩ fun e ⟨_,hst⟩=>?_
       exact .oA [(0,some 0)] []
      ·refine XE.brN (fun h4=>?_) (fun h4=>?_)
       ·obtain ⟨v,b3,hv,hb3,sV⟩:=Qe s hd l b2 hl hb2
        obtain ⟨_,v2,v3⟩:=jd.1 hv
        rw [Int.toNat_natCast] at v3
        have hil:v < s.cols.length:=by omega
        refine XE.mp (fun _ _=>C1.draw 0 l b2 _ sV rfl rfl rfl) ?_
        simp only [tZ,↓un_u,simprocAttr,Int.toNat_natCast,qe hil]
        refine XE.sd (by omega) ?_
        refine XE.brB (fun h5=>?_) (fun h5=>?_)
        ·refine XE.fin (.mk 4 v 0 0 0 [],b3) ⟨wG _ (zK8 hv (by rw [hat v hil];exact h5)) rfl,hb3⟩ fun e ⟨_,hst⟩=>?_
         exact .oA [(0,some 0)] []
        ·refine XE.fin (.mk 1 0 0 0 0 [],b3) ⟨wG _ (qC6 s) rfl,hb3⟩ fun e ⟨_,hst⟩=>?_
         exact .oA [(0,some 0)] []
       ·refine XE.fin (.mk 1 0 0 0 0 [],b2) ⟨wG _ (qC6 s) rfl,hb2⟩ fun e ⟨_,hst⟩=>?_
        exact .oA [(0,some 0)] []
end Go.Proofs
namespace Go.Proofs
open Go Go.TL
set_option maxRecDepth 4000
set_option maxHeartbeats 8000000
theorem qC7 (s:Sch) (kind:Int):(Ju s kind).Nodup:=by
 unfold Ju Kw
 show List.Pairwise (·≠·) _
 rw [List.pairwise_map]
 exact ((List.nodup_range).filter _).imp fun h e=>h (by omega)
theorem DrS.code2 {s:Sch} (h:DrS s):(Ju s 2).length≤2:=by
 obtain ⟨ms,hc,h1,h3⟩:=h.cs
 have key:∀ (pre:List Col) (n:Nat),s.cols = pre ++ ms→(∀ j (hj:j < ms.length),DrM (n + j) ms[j])→(Ju s 2).length = (Kw s 2 pre.length).length:=by
  intro pre n he hm
  unfold Ju
  have k2:∀ m,pre.length + m≤s.cols.length→(Kw s 2 (pre.length + m)).length = (Kw s 2 pre.length).length:=by
   intro m
   induction m with
   | zero=>intro _;rfl
   | succ m ih=>
     intro hle
     have hl:m < ms.length:=by rw [he,List.length_append] at hle;omega
     have hk:(qg s (pre.length + m)).kind = 3:=by
      rw [qg,he,List.getD_eq_getElem?_getD,List.getElem?_append_right (by omega),Nat.add_sub_cancel_left,List.getElem?_eq_getElem hl]
      exact (hm m hl).kind
     rw [← Nat.add_assoc,jR,if_neg (by rw [hk];decide),List.append_nil]
     exact ih (by omega)
  have:=k2 ms.length (by rw [he,List.length_append];omega)
  rw [← List.length_append,← he] at this
  exact this
 rcases hc with ⟨hc,hm⟩ | ⟨hc,hm⟩
 ·rw [key [whoC,sexC] 2 (by rw [hc];rfl) hm]
  have:=jR s 2 1
  have h0:=jR s 2 0
  have e0:(qg s 0).kind = 1:=by rw [qg,hc];rfl
  rw [e0] at h0
  show (Kw s 2 (1 + 1)).length≤2
  have:=qj4 s 2 2
  omega
 ·rw [key [whoC,sexC,jobC] 3 (by rw [hc];rfl) hm]
  have h2:=jR s 2 2
  have h1:=jR s 2 1
  have h0:=jR s 2 0
  have e0:(qg s 0).kind = 1:=by rw [qg,hc];rfl
  have e1:(qg s 1).kind = 2:=by rw [qg,hc];rfl
  have e2:(qg s 2).kind = 2:=by rw [qg,hc];rfl
  rw [e0,if_neg (by decide)] at h0
  rw [e1,if_pos rfl] at h1
  rw [e2,if_pos rfl] at h2
  show (Kw s 2 (2 + 1)).length≤2
  rw [h2,h1,h0]
  simp [Kw]
structure DimOk (s:Sch) (L:List Int) (l:List Pk):Prop where
 cols:l.map (·.col) = L
 pick:∀ p∈l,Qu s p = 0
theorem DimOk.dims {s:Sch} {L:List Int} {l:List Pk} (h:DimOk s L l) (h1:1≤L.length) (h2:L.length≤3) (hn:L.Nodup) (hc:∀ v∈L,isB s v 2 = true):JN s l = 0:=by
 have hl:l.length = L.length:=by rw [← h.cols,List.length_map]
 rw [JN,if_neg (by omega)]
 refine JM fun i hi=>?_
 have hpi:pkAt l i = l[i]:=by rw [pkAt,qh hi]
 have hm:l[i]∈l:=List.getElem_mem hi
 rw [dimE,hpi,if_neg (by rw [h.pick _ hm];simp),if_neg (by rw [hc _ (by rw [← h.cols];exact List.mem_map_of_mem hm)];simp),if_neg]
 intro k
 obtain ⟨x,hx,e⟩:=List.any_eq_true.1 k
 obtain ⟨j,hj,rfl⟩:=List.mem_take_iff_getElem.1 hx
 rw [← h.cols] at hn
 have:=List.pairwise_iff_getElem.1 hn j i (by simp;omega) (by simp;omega) (by omega)
 simp only [List.getElem_map] at this
 exact this (beq_iff_eq.1 e)
theorem zf2 {s:Sch} (hE:schE s = 0) {v:Nat} (h:isB s v 2 = true∨isB s v 3 = true):1≤v∧v < s.cols.length∧0≤finI s v∧finI s v≤59:=by
 have hok:=qW hE
 have hb:∃ k,2≤k∧isB s v k = true:=by rcases h with h | h <;> exact ⟨_,by omega,h⟩
 obtain ⟨k,hk,hb⟩:=hb
 obtain ⟨_,b2,b3⟩:=jd.1 hb
 rw [Int.toNat_natCast] at b3
 have hv:v≠0:=fun e=>by subst e;have:=hok.c0;omega
 refine ⟨by omega,by omega,?_,WN hE⟩
 rw [finI,if_neg (by omega),Int.toNat_natCast]
 split
 ·rename_i h2
  have:=zp0 (hok.cdl (by omega) h2).2
  omega
 ·omega
theorem kL (s:Sch) (hd:DrS s) (l:List UInt8) (a:Nat) (hl:l.length≤400) (ha:a≤l.length) :
 ∃ r:List Pk×Nat,(JN s r.1 = 0∧r.2≤l.length)∧Spc Tryz.prog yJ [.ptr 0 1 0 0,schT s] [(0,oC l a)] (vPs r.1) [(0,oC l r.2)]:=by
 have hE:=hd.ok
 have hok:=qW hE
 have hnc:=hok.nc
 have hc:=Qn s 2 (by omega)
 have hm:=fun v=>(ZJ (s:=s) (kind:=2) (v:=v)).1
 have hnd:=qC7 s 2
 have hc2:=hd.code2
 obtain ⟨k1,k2⟩:=hd.code
 generalize Ju s 2 = L at hc hm hnd hc2 k1 k2
 obtain ⟨o,a1,ha1,sO⟩:=zT8 l a 2 hl ha (by omega)
 obtain ⟨j,a2,j1,j2,ha2,sN⟩:=yx l a1 L.length hl ha1 (by omega)
 obtain ⟨m,rfl⟩:=Int.eq_ofNat_of_zero_le j1
 refine zV qg6 mixm (fun r:List Pk×Nat=>vPs r.1) (fun r=>[(0,oC l r.2)]) (by simp) ?_
 unfold yi
 refine sW ?_
 refine XE.mp (fun _ _=>C1.im hc (by rfl) (by rfl)) ?_
 refine sW ?_
 refine XE.mp (fun _ _=>C1.draw 0 l a _ sO rfl rfl rfl) ?_
 refine sW ?_
 refine XE.brB (fun ho=>?_) (fun ho=>?_)
 focus
  refine XE.mp (fun _ _=>C1.draw 0 l a1 _ sN rfl rfl rfl) ?_
  simp only [tZ,↓un_u,simprocAttr,qa0,zS0]
  have hmd:∀ v∈L.drop m,isB s v 2 = true:=fun v hv=>hm v (List.mem_of_mem_drop hv)
  have hnd2:(L.drop m).Nodup:=hnd.sublist (List.drop_sublist m L)
  have hl2:1≤(L.drop m).length∧(L.drop m).length≤2:=by rw [List.length_drop];omega
  generalize L.drop m = M at hmd hnd2 hl2 ⊢
  obtain ⟨b,hb⟩:∃ b,b = a2:=⟨_,rfl⟩
  rw [← hb]
  have hb:b≤l.length:=by omega
  refine XE.sd (by omega) ?_
 rotate_left
 focus
  have hmd:=hm
  have hnd2:=hnd
  have hl2:1≤L.length∧L.length≤2:=by omega
  obtain ⟨M,hM⟩:∃ M,M = L:=⟨_,rfl⟩
  rw [← hM] at hmd hnd2 hl2 ⊢
  obtain ⟨b,hb⟩:∃ b,b = a1:=⟨_,rfl⟩
  rw [← hb]
  have hb:b≤l.length:=by omega
 all_goals (
  refine XE.loopF mixm [5,20] (fun y:List Pk×Nat=>y.1.length≤M.length∧DimOk s (M.take y.1.length) y.1∧y.2≤l.length) (fun y=>[(5,.asl 1 y.1.length),(20,vI y.1.length)]) (fun y=>[(0,oC l y.2),(4096,.arr 2 [schT s] false),(1,.arr 2 (y.1.map pkT) false)]) (fun y=>M.length - y.1.length) ([],b) ⟨by simp,⟨rfl,by simp⟩,hb⟩ (fun e ⟨_,hst⟩=>?_) fun T' y hy ih=>?_
  ·exact .oA [(0,some 0),(4096,some 4096),(1,none)] []
  obtain ⟨ps,a4⟩:=y
  obtain ⟨y1,y2,y3⟩:=hy
  dsimp only at y1 y2 y3
  simp only [tZ,↓un_u,simprocAttr,decide_eq_true_eq,decide_eq_false_iff_not]
  refine XE.brN (fun h4=>?_) (fun h4=>?_)
  ·have hi2:ps.length < M.length:=by omega
   have hwi:=qj (i:=ps.length) (by omega)
   have hiB:=hmd _ (List.getElem_mem hi2)
   have htk:=zc hi2
   obtain ⟨v,hv⟩:=Int.eq_ofNat_of_zero_le (jd.1 hiB).1
   have hgv:(M.map vI).getD ps.length .junk = vI v:=by rw [qe hi2,hv]
   rw [hv] at hiB htk
   obtain ⟨f1,f2,f3,f4⟩:=zf2 hE (.inl hiB)
   have hFin:=YP s hok.sm v
   obtain ⟨w,a5,w1,w2,hw,sQ⟩:=yx l a4 (finI s v + 1) hl y3 (by omega)
   have hwf:IntKind.i64.wrap (finI s v + 1) = finI s v + 1:=IntWalk.i64_in _ (by omega)
   simp only [tZ,↓un_u,simprocAttr,Int.toNat_natCast,hgv]
   refine XE.sd (by omega) (XE.sd (by omega) ?_)
   refine XE.mp (fun _ _=>C1.im hFin (by rfl) (by rfl)) ?_
   simp only [tZ,↓un_u,simprocAttr,hwf]
   refine XE.mp (fun _ _=>C1.draw 0 l a4 _ sQ rfl rfl rfl) ?_
   simp only [tZ,↓un_u,simprocAttr,hwi]
   refine XE.sd (by omega) (XE.sd (by kernel_rfl) ?_)
   refine XE.next ih (ps ++ [⟨v,w⟩],a5) ⟨by simp;omega,⟨?_,fun p hp=>?_⟩,hw⟩ (by simp;omega) fun e ⟨_,hst⟩=>?_
   ·dsimp only
    rw [List.length_append,List.map_append,y2.cols]
    exact htk.symm
   ·rcases List.mem_append.1 hp with hp | hp
    ·exact y2.pick p hp
    ·rw [List.mem_singleton.1 hp,Qu,if_neg (by rw [hE];simp),if_neg (by dsimp only;omega),if_neg]
     rw [Bool.not_eq_false,ZX]
     dsimp only;omega
   ·exact .oA [(0,some 0),(4096,some 4096),(1,some 1)] []
  ·have hil:ps.length = M.length:=by omega
   rw [hil,List.take_length] at y2
   refine XE.fin (ps,a4) ⟨y2.dims hl2.1 (by omega) hnd2 hmd,y3⟩ fun e ⟨_,hst⟩=>?_
   exact .oA [(0,some 0)] [1]
  )
end Go.Proofs
namespace Go.Proofs
open Go Go.TL
theorem wJ (s:ByteArray):Spc Tryz.prog jC [vS s] [] (vB (jb s)) []:=by
 refine qd qN8 mixm (by simp) fun e _ hst=>qk ?_
 unfold Km
 refine sW ?_
 refine ⟨fun h=>?_,fun h=>?_,fun h=>?_,fun h=>?_⟩
 ·simp at h
  omega
 ·simp at h
  omega
 ·have:jb s = false:=by unfold jb ze9;rw [h];rfl
  rw [this]
  exact .oA [] []
 have hd:ze9 s = false:=h
 have hs16:s.data.toList.length≤16:=by
  unfold ze9 at hd
  simp only [Bool.or_eq_false_iff,decide_eq_false_iff_not] at hd
  have:s.size = s.data.toList.length:=by rw [Array.length_toList];rfl
  omega
 refine qy mixm (α:=Nat) [26] (fun i=>i≤s.data.toList.length∧((s.data.toList.take i).any qA6 = false)) (fun i=>[(26,vI i)]) (fun i=>[]) (fun i=>s.data.toList.length - i) 0 ⟨by omega,?_⟩ ?_ fun i hi=>?_
 ·rfl
 ·exact .oA [] []
 refine sD ?_
 refine ⟨fun h5=>?_,fun h5=>?_⟩
 ·have hi2:i < s.data.toList.length:=by omega
  have hwi:=qj (i:=i) (by omega)
  simp only [tZ,↓un_u,simprocAttr,Int.toNat_natCast,qe hi2,hwi,yF]
  refine ⟨by omega,fun h6=>?_,fun h6=>?_⟩
  ·have hb:qA6 s.data.toList[i] = true:=h6
   have:jb s = false:=by
    unfold jb
    rw [show s.data.toList.any qA6 = true from List.any_eq_true.2 ⟨_,List.getElem_mem hi2,hb⟩]
    simp
   rw [this]
   exact .oA [] []
  ·have hb:qA6 s.data.toList[i] = false:=h6
   refine ⟨i + 1,⟨by omega,jD hi2 hi.2 hb⟩,by omega,?_⟩
   exact .oA [] []
 ·have h3:=hi.2
  have:i = s.data.toList.length:=by omega
  rw [this,List.take_length] at h3
  have hn:jb s = !(resW.contains s.toList):=by unfold jb;rw [hd,h3];rfl
  rw [hn]
  simp only [resW,List.contains_cons,List.contains_nil]
  repeat' (first | with_reducible apply And.intro | with_reducible intro _)
  all_goals first
   | (exfalso;simp_all;done)
   | (simp only [*,Bool.true_or,Bool.or_true,Bool.false_or,Bool.or_false,Bool.not_true,Bool.not_false];exact .imR rfl rfl)
end Go.Proofs
namespace Go.Proofs
open Go Go.TL
set_option maxHeartbeats 8000000
def depL (cs:List Cod):List Int:=(List.range cs.length).map fun i=>(dep cs i:Int)
def depO (cs:List Cod) (i:Nat):List Int:=((List.range i).map fun i=>(dep cs i:Int)) ++ List.replicate (cs.length - i) 0
theorem Yj (cs:List Cod):(depL cs).length = cs.length:=by simp [depL]
theorem zT9 {cs:List Cod} {i:Nat} (h:i≤cs.length):(depO cs i).length = cs.length:=by simp [depO];omega
theorem zL0 (cs:List Cod):depO cs 0 = List.replicate cs.length 0:=by simp [depO]
theorem zU0 (cs:List Cod):depO cs cs.length = depL cs:=by simp [depO,depL]
theorem zU1 {cs:List Cod} {i:Nat} (h:i < cs.length) (v:Int) (hv:v = dep cs i):(depO cs i).set i v = depO cs (i + 1):=by
 unfold depO
 rw [List.set_append_right _ _ (by simp),List.length_map,List.length_range,Nat.sub_self,show cs.length - i = (cs.length - (i + 1)) + 1 by omega,List.replicate_succ,List.set_cons_zero,List.range_succ,List.map_append,List.append_assoc,hv]
 rfl
theorem zL1 {cs:List Cod} {i:Nat} (h:i < cs.length) (h0:dep cs i = 0):depO cs i = depO cs (i + 1):=by
 unfold depO
 rw [show cs.length - i = (cs.length - (i + 1)) + 1 by omega,List.replicate_succ,List.range_succ,List.map_append,List.append_assoc,List.map_cons,h0]
 rfl
theorem jg3 {cs:List Cod} {i k:Nat} (h:k < i) (hi:i≤cs.length):(depO cs i).getD k 0 = dep cs k:=by
 unfold depO
 rw [List.getD_eq_getElem?_getD,List.getElem?_append_left (by simp;omega),List.getElem?_map,List.getElem?_range (by omega)]
 rfl
theorem jb2 (n:Nat):List.replicate n (T.v (Value.int IntKind.i64 0)) = (List.replicate n (0:Int)).map vI:=by simp
structure ParR (cs:List Cod):Prop where
 ok:qA7 cs
 kid:∀ i,0 < i→i < cs.length→0≤parC cs i
 root:parC cs 0 < 0∨cs.length = 0
 len:cs.length≤60
theorem wi (l:CodL) (h:ParR l.codes):Spc Tryz.prog jg [cdlT l] [] (vIs (depL l.codes)) []:=by
 have hl:=h.len
 refine qd qA3 mixm (by simp) fun e _ hst=>qk ?_
 unfold ZH
 refine sW ?_
 refine ⟨by omega,?_⟩
 refine qy mixm (α:=Nat) [13] (fun i=>i≤l.codes.length) (fun i=>[(13,vI i)]) (fun i=>[(4096,.arr 2 [cdlT l] false),(8204,.arr 1 ((depO l.codes i).map vI) false)]) (fun i=>l.codes.length - i) 0 (by omega) ?_ fun i hi=>?_
 ·rw [zL0]
  refine .of [(4096,some 4096),(8204,some 8204)] [] rfl (by first | rfl | (rw [hst];rfl)) ?_ ?_
  all_goals (try simp only [tL,simprocAttr,List.map_append,List.map_cons,List.map_nil,List.cons_append,List.nil_append,Int.toNat_natCast,jb2])
  all_goals (try (repeat' (first | exact qY | (apply zy;intro _;exact ⟨rfl,rfl⟩) | (apply qA;intro _;exact ⟨rfl,rfl⟩) | with_reducible apply qR | with_reducible refine qG ⟨rfl,rfl⟩ ?_ | exact qV | with_reducible apply qM | with_reducible refine qO ⟨rfl,rfl,?_⟩ ?_ | with_reducible apply And.intro | exact qQ rfl | exact qQ (by assumption) | (refine ⟨⟨?_,rfl,?_,rfl,?_⟩,trivial⟩ <;> first | (simp;done) | (apply qA;intro _;exact ⟨rfl,rfl⟩)) | trivial | rfl | (rw [qj (by omega)]) | omega)))
 have hol:=zT9 (cs:=l.codes) hi
 refine sD ?_
 refine ⟨fun h2=>?_,fun h2=>?_⟩
 ·have hi2:i < l.codes.length:=by omega
  have hwi:=qj (i:=i) (by omega)
  have hp:=h.ok i hi2
  have hat:cdAt l.codes i = l.codes[i]:=by rw [cdAt,qh hi2]
  have hpar:l.codes[i].par = parC l.codes i:=by rw [parC,hat]
  simp only [tZ,↓un_u,simprocAttr,Int.toNat_natCast,qe hi2,hpar,gt_iff_lt,tD]
  refine ⟨by omega,fun h4=>?_,fun h4=>?_⟩
  ·have hk:=h.kid i (by omega) hi2
   have hdk:=qn8 h.ok hi2 hk
   obtain ⟨q,hq⟩:=Int.eq_ofNat_of_zero_le hk
   have hqi:q < i:=by omega
   have hq3:q < (depO l.codes i).length:=by omega
   have hq4:(depO l.codes i)[q] = dep l.codes q:=by
    have:=jg3 (cs:=l.codes) hqi hi
    rw [qh hq3] at this
    exact this
   have hdl:=qq2 h.ok q (by omega)
   have hwd:=qj (i:=dep l.codes q) (by omega)
   rw [hq,Int.toNat_natCast] at hdk
   have hi3:i < (depO l.codes i).length:=by omega
   have hset:=zU1 hi2 ((dep l.codes q + 1:Nat):Int) (by rw [hdk])
   simp only [tZ,↓un_u,simprocAttr,hq,Int.toNat_natCast,qe hq3,qe hi3,hq4,hwd,hwi,show ∀ a b:Int,repl (vI a) 0 (vI b) = vI b from fun _ _=>rfl]
   refine ⟨by omega,by omega,by omega,by omega,i + 1,by omega,by omega,?_⟩
   rw [← List.map_set,hset]
   exact .oA [(4096,some 4096),(8204,some 8204)] []
  ·have hz:i = 0:=by omega
   subst hz
   have hr:=h.root.resolve_right (by omega)
   have hn:=zL1 hi2 (qi5 hr)
   simp only [tZ,↓un_u,simprocAttr,hwi]
   refine ⟨1,by omega,by omega,?_⟩
   rw [← hn]
   exact .oA [(4096,some 4096),(8204,some 8204)] []
 ·have hil:i = l.codes.length:=by omega
  subst hil
  rw [zU0,Int.toNat_natCast]
  have hdl:=Yj l.codes
  exact .oA [] [8204]
def aboL (cs:List Cod) (i:Nat):List Bool:=(List.range cs.length).map fun (k:Nat)=>(cs.take i).any fun x=>x.par == (k:Int)
theorem Kx (cs:List Cod) (i:Nat):(aboL cs i).length = cs.length:=by simp [aboL]
theorem zL2 (cs:List Cod):aboL cs 0 = List.replicate cs.length false:=by
 rw [List.eq_replicate_iff]
 refine ⟨Kx cs 0,fun b hb=>?_⟩
 obtain ⟨k,_,rfl⟩:=List.mem_map.1 hb
 simp
theorem qj6 {cs:List Cod} {i k:Nat} (h:k < (aboL cs i).length):(aboL cs i)[k] = (cs.take i).any fun x=>x.par == (k:Int):=by simp [aboL]
theorem zL3 {cs:List Cod} {i:Nat} (h:i < cs.length) (hp:cs[i].par < 0):aboL cs (i + 1) = aboL cs i:=by
 refine List.ext_getElem (by rw [Kx,Kx]) fun k h1 h2=>?_
 have h3:(cs[i].par == (k:Int)) = false:=beq_eq_false_iff_ne.2 (by omega)
 rw [qj6,qj6,zc h,List.any_append,List.any_cons,List.any_nil,h3]
 simp
theorem zU2 {cs:List Cod} {i p:Nat} (h:i < cs.length) (hp:cs[i].par = p):(aboL cs i).set p true = aboL cs (i + 1):=by
 refine List.ext_getElem (by rw [List.length_set,Kx,Kx]) fun k h1 h2=>?_
 rw [List.getElem_set,qj6,qj6,zc h,List.any_append,List.any_cons,List.any_nil,hp]
 by_cases e:p = k
 ·subst e;simp
 ·have:((p:Int) == (k:Int)) = false:=beq_eq_false_iff_ne.2 (by omega)
  rw [if_neg e,this]
  simp
theorem zU3 {cs:List Cod} {k:Nat} (h:k < (aboL cs cs.length).length):(aboL cs cs.length)[k] = !qc4 cs k:=by
 rw [qj6,List.take_length,qc4,Bool.not_not]
theorem jl6 (n:Nat):List.replicate n (T.v (Value.bool false)) = (List.replicate n false).map vB:=by simp
def zf3 (cs:List Cod):List (ByteArray×Bool):=cs.map fun c=>(c.name,true)
theorem za1 {nm:ByteArray}:∀ {cs:List Cod},(TL.look TL.eqS nm (zf3 cs)).getD false = cs.any fun x=>eqB x.name nm
 | []=>rfl
 | c :: cs=>by
   have h:TL.eqS nm c.name = eqB c.name nm:=by
    rw [Bool.eq_iff_iff,TL.eqS,eqB,beq_iff_eq,beq_iff_eq]
    exact ⟨fun h=>h.symm,fun h=>h.symm⟩
   simp only [zf3,List.map_cons,TL.look,List.any_cons,h]
   cases eqB c.name nm with
   | true=>rfl
   | false=>rw [if_neg (by simp),Bool.false_or];exact za1
theorem zp7 {c:Cod}:∀ {cs:List Cod},(cs.any fun x=>eqB x.name c.name) = false→TL.asg TL.eqS c.name true (zf3 cs) = zf3 (cs ++ [c])
 | [],_=>rfl
 | x :: cs,h=>by
   rw [List.any_cons,Bool.or_eq_false_iff] at h
   have h1:TL.eqS c.name x.name = eqB x.name c.name:=by
    rw [Bool.eq_iff_iff,TL.eqS,eqB,beq_iff_eq,beq_iff_eq]
    exact ⟨fun h=>h.symm,fun h=>h.symm⟩
   simp only [zf3,List.map_cons,TL.asg,h1,h.1,List.cons_append]
   rw [if_neg (by simp)]
   congr 1
   exact zp7 h.2
theorem jl7 {cs:List Cod} (h:cdEs cs cs.length = 0) (hl:cs.length≤60):ParR cs:=by
 refine ⟨ja8 h,fun i h0 hi=>(qO1 (qi6 h i hi)).2.2.2 h0,?_,hl⟩
 rcases Nat.eq_zero_or_pos cs.length with h0 | h0
 ·exact .inr h0
 ·have:=(qO1 (qi6 h 0 h0)).2.2.1 rfl
  exact .inl (by omega)
theorem qj7 {l:CodL} (h:lstE l = 0):ParR l.codes:=by
 obtain ⟨_,_,h3⟩:=zr h
 refine jl7 ?_ h3
 unfold lstE at h
 split at h
 ·cases h
 ·split at h
  ·cases h
  ·split at h
   ·cases h
   ·split at h
    ·rename_i h2;exact absurd h h2
    ·rename_i h4;exact Classical.byContradiction h4
theorem Zf (l:CodL):Spc Tryz.prog kK [cdlT l] [] (vI (lstE l)) []:=by
 refine qd qF8 mixm (by simp) fun e _ hst=>qk ?_
 unfold Jn
 refine sW ?_
 refine C1.im (wJ l.name) (by rfl) (by rfl) ?_
 simp only [tZ,↓un_u,simprocAttr,Bool.not_eq_true',Bool.not_eq_false']
 refine ⟨fun h=>?_,fun h1=>?_⟩
 ·rw [lstE,if_pos h]
  exact .oA [] []
 simp only [tZ,↓un_u,simprocAttr,beq_iff_eq,beq_eq_false_iff_ne]
 refine ⟨fun h=>?_,fun h2=>?_⟩
 ·rw [lstE,if_neg (by rw [h1];simp),if_pos (by omega)]
  exact .oA [] []
 refine sD ?_
 refine ⟨fun h=>?_,fun h3=>?_⟩
 ·rw [lstE,if_neg (by rw [h1];simp),if_neg (by omega),if_pos (by omega)]
  exact .oA [] []
 have hE1:cdEs l.codes l.codes.length≠0→lstE l = cdEs l.codes l.codes.length:=fun h=>by
  rw [lstE,if_neg (by rw [h1];simp),if_neg (by omega),if_neg (by omega),if_pos h]
 have hE2:cdEs l.codes l.codes.length = 0→lvs l.codes l.codes.length = none→lstE l = 5:=fun h k=>by
  rw [lstE,if_neg (by rw [h1];simp),if_neg (by omega),if_neg (by omega),if_neg (by rw [h];simp),k]
 have hE3:∀ v,cdEs l.codes l.codes.length = 0→lvs l.codes l.codes.length = some v→lstE l = 0:=fun v h k=>by
  rw [lstE,if_neg (by rw [h1];simp),if_neg (by omega),if_neg (by omega),if_neg (by rw [h];simp),k]
 refine ⟨by omega,by kernel_rfl,?_⟩
 refine qy mixm (α:=Nat) [33] (fun i=>i≤l.codes.length∧cdEs l.codes i = 0) (fun i=>[(33,vI i)]) (fun i=>[(4096,.arr 2 [cdlT l] false),(32768,.mp (.sb (zf3 (l.codes.take i)))),(32784,.arr 1 ((aboL l.codes i).map vB) false)]) (fun i=>l.codes.length - i) 0 ⟨by omega,rfl⟩ ?_ fun i hi=>?_
 ·simp only [List.take_zero,zf3,List.map_nil,zL2]
  refine .of [(4096,some 4096),(32768,some 32768),(32784,some 32784)] [] rfl (by first | rfl | (rw [hst];rfl)) ?_ ?_
  all_goals (try simp only [tL,simprocAttr,List.map_append,List.map_cons,List.map_nil,List.cons_append,List.nil_append,Int.toNat_natCast,jl6])
  all_goals (try (repeat' (first | exact qY | (apply zy;intro _;exact ⟨rfl,rfl⟩) | (apply qA;intro _;exact ⟨rfl,rfl⟩) | with_reducible apply qR | with_reducible refine qG ⟨rfl,rfl⟩ ?_ | exact qV | with_reducible apply qM | with_reducible refine qO ⟨rfl,rfl,?_⟩ ?_ | with_reducible apply And.intro | exact qQ rfl | exact qQ (by assumption) | (refine ⟨⟨?_,rfl,?_,rfl,?_⟩,trivial⟩ <;> first | (simp;done) | (apply qA;intro _;exact ⟨rfl,rfl⟩)) | trivial | rfl | (rw [qj (by omega)]) | omega)))
 obtain ⟨i1,i2⟩:=hi
 have hbl:=Kx l.codes i
 refine sD ?_
 refine ⟨fun h4=>?_,fun h4=>?_⟩
 ·have hi2:i < l.codes.length:=by omega
  have hwi:=qj (i:=i) (by omega)
  have hat:cdAt l.codes i = l.codes[i]:=by rw [cdAt,qh hi2]
  have hs:cdEs l.codes (i + 1) = cdE l.codes i:=by rw [cdEs,if_neg (by rw [i2];simp)]
  have hbad:cdE l.codes i≠0→lstE l = cdE l.codes i:=fun hb=>by
   have:=qK2 (by rw [hs];exact hb) l.codes.length (show i + 1≤l.codes.length by omega)
   rw [hE1 (by rw [this,hs];exact hb),this,hs]
  simp only [tZ,↓un_u,simprocAttr,Int.toNat_natCast,qe hi2]
  refine ⟨by omega,?_⟩
  refine C1.im (wJ l.codes[i].name) (by rfl) (by rfl) ?_
  simp only [tZ,↓un_u,simprocAttr,Bool.not_eq_true',Bool.not_eq_false',za1]
  refine ⟨fun h5=>?_,fun h5=>?_⟩
  ·have hc:cdE l.codes i = 3:=by rw [cdE,hat,if_pos h5]
   rw [hbad (by rw [hc];decide),hc]
   exact .oA [] []
  refine ⟨fun h6=>?_,fun h6=>?_⟩
  ·have hc:cdE l.codes i = 10:=by rw [cdE,hat,if_neg (by rw [h5];simp),if_pos h6]
   rw [hbad (by rw [hc];decide),hc]
   exact .oA [] []
  have hpar:l.codes[i].par = parC l.codes i:=by rw [parC,hat]
  have hcE:cdE l.codes i = if (i = 0∧parC l.codes i≠-1)∨(0 < i∧(parC l.codes i < 0∨parC l.codes i≥i)) then 6 else 0:=by
   rw [cdE,hat,if_neg (by rw [h5];simp),if_neg (by rw [h6];simp)]
  have hasg:=zp7 (c:=l.codes[i]) (cs:=l.codes.take i) h6
  rw [← zc hi2] at hasg
  simp only [tZ,↓un_u,simprocAttr,hasg,hpar,tD,beq_iff_eq,beq_eq_false_iff_ne,bne_iff_ne,bne_eq_false_iff_eq]
  refine ⟨fun h7=>?_,fun h7=>?_⟩
  ·have hc:cdE l.codes i = 6:=by rw [hcE,if_pos (by omega)]
   rw [hbad (by rw [hc];decide),hc]
   exact .oA [] []
  have hc0:cdEs l.codes (i + 1) = 0:=by rw [hs,hcE,if_neg (by omega)]
  refine ⟨fun h8=>?_,fun h8=>?_⟩
  ·obtain ⟨q,hq⟩:=Int.eq_ofNat_of_zero_le (show 0≤parC l.codes i by omega)
   have hq3:q < (aboL l.codes i).length:=by omega
   have hset:=zU2 (p:=q) hi2 (by rw [hpar,hq])
   simp only [hq,Int.toNat_natCast,qe hq3,show ∀ a b:Bool,repl (vB a) 0 (vB b) = vB b from fun _ _=>rfl,hwi]
   refine ⟨⟨by omega,by omega,by omega⟩,⟨by omega,by omega,rfl⟩,i + 1,⟨by omega,hc0⟩,by omega,?_⟩
   rw [← List.map_set,hset]
   exact .oA [(4096,some 4096),(32768,some 32768),(32784,some 32784)] []
  ·have hsk:=zL3 hi2 (by omega)
   simp only [hwi]
   refine ⟨i + 1,⟨by omega,hc0⟩,by omega,?_⟩
   rw [hsk]
   exact .oA [(4096,some 4096),(32768,some 32768),(32784,some 32784)] []
 ·have hil:i = l.codes.length:=by omega
  subst hil
  have hP:=jl7 i2 (by omega)
  have hdl:=Yj l.codes
  refine C1.im (wi l hP) (by rfl) (by rfl) ?_
  refine sW ?_
  have hbl:=Kx l.codes l.codes.length
  refine qy mixm (α:=Nat×Int) [7,84] (fun x=>x.1≤l.codes.length∧lvs l.codes x.1 = some x.2) (fun x=>[(7,vI x.2),(84,vI x.1)]) (fun x=>[(32784,.arr 1 ((aboL l.codes l.codes.length).map vB) false)]) (fun x=>l.codes.length - x.1) (0,-1) ⟨by simp,rfl⟩ ?_ fun x hx=>?_
  ·rw [Int.toNat_natCast]
   exact .oA [(32784,some 32784)] []
  obtain ⟨j,v⟩:=x
  obtain ⟨j1,j2⟩:=hx
  dsimp only at j1 j2
  refine sD ?_
  refine ⟨fun h5=>?_,fun h5=>?_⟩
  ·have hj2:j < l.codes.length:=by omega
   have hwj:=qj (i:=j) (by omega)
   have hs:=qu2 l.codes j
   rw [j2,lvS] at hs
   have hj3:j < (depL l.codes).length:=by omega
   have hj4:j < (aboL l.codes l.codes.length).length:=by omega
   have hd1:(depL l.codes)[j] = dep l.codes j:=by simp [depL]
   have ha1:=zU3 hj4
   simp only [tZ,↓un_u,simprocAttr,Int.toNat_natCast,qe hj3,qe hj4,hd1,ha1,hwj,Bool.not_eq_true',Bool.not_eq_false',tD,bne_iff_ne,bne_eq_false_iff_eq]
   refine ⟨by omega,by omega,by omega,fun h6=>?_,fun h6=>?_⟩
   ·rw [if_neg (by rw [h6];simp)] at hs
    refine ⟨(j + 1,v),⟨by dsimp only;omega,hs⟩,by dsimp only;omega,?_⟩
    exact .oA [(32784,some 32784)] []
   ·rw [if_pos h6] at hs
    refine ⟨fun h7=>?_,fun h7=>?_⟩
    ·rw [if_pos (by omega)] at hs
     rw [hE2 i2 (zp1 hs _ (by omega))]
     exact .oA [] []
    ·rw [if_neg (by omega)] at hs
     refine ⟨(j + 1,(dep l.codes j:Int)),⟨by dsimp only;omega,hs⟩,by dsimp only;omega,?_⟩
     exact .oA [(32784,some 32784)] []
  ·have hjl:j = l.codes.length:=by omega
   subst hjl
   rw [hE3 v i2 j2]
   exact .oA [] []
end Go.Proofs
