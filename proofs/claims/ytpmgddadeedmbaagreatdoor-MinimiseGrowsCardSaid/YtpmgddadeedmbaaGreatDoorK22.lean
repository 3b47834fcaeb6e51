/- A part of the proof: trees of Go values, short forms, contracts. -/
import Derived.WalkKit
import Derived.Still
import Derived.MapKept
import GoSem.Builtin.Cap
import Derived.Laws.Externs
import GoSem.Extern.SlicesOverlaps
import Derived.Carry
import Derived.ProofKit
import Derived.OpenShut
import Derived.HandedShaped
import Derived.Lay
import Derived.LaidLaws
import Derived.MakeChecks
import Derived.SevenTiedAt
import Derived.Test.YtpmgddadeedmbaaGreatDoorChecked
import Derived.Test.YtpmgddadeedmbaaGreatDoorK21
set_option linter.unusedSimpArgs false
set_option linter.unusedVariables false
namespace Go.Proofs
open Go Go.TL
set_option maxRecDepth 4000
set_option maxHeartbeats 8000000
end Go.Proofs
namespace Go.Proofs
open Go Go.TL
set_option maxRecDepth 4000
set_option maxHeartbeats 8000000
theorem DrS.meas3 {s:Sch} (h:DrS s):(JQ s 3).length≤3:=by
 obtain ⟨ms,hc,h1,h3⟩:=h.cs
 have key:∀ n,(We s 3 n).length≤n - 2:=by
  have e0:(qj s 0).kind = 1:=by rcases hc with ⟨hc,_⟩ | ⟨hc,_⟩ <;> (rw [qj,hc];rfl)
  have e1:(qj s 1).kind = 2:=by rcases hc with ⟨hc,_⟩ | ⟨hc,_⟩ <;> (rw [qj,hc];rfl)
  intro n
  induction n with
  | zero=>simp [We]
  | succ n ih=>
    rw [jX,List.length_append]
    by_cases k0:n = 0
    ·subst k0;rw [e0,if_neg (by decide),List.length_nil];omega
    ·by_cases k1:n = 1
     ·subst k1;rw [e1,if_neg (by decide),List.length_nil];omega
     ·split <;> simp <;> omega
 rcases hc with ⟨hc,hm⟩ | ⟨hc,hm⟩
 ·have:=key s.cols.length
  have hl:s.cols.length = ms.length + 2:=by rw [hc];rfl
  unfold JQ;omega
 ·have e2:(qj s 2).kind = 2:=by rw [qj,hc];rfl
  have k2:∀ n,3≤n→(We s 3 n).length≤n - 3:=by
   intro n hn
   induction n with
   | zero=>omega
   | succ n ih=>
     by_cases k:n = 2
     ·subst k
      rw [jX,e2,if_neg (by decide),List.append_nil]
      have:=key 2;omega
     ·rw [jX,List.length_append]
      have:=ih (by omega)
      split <;> simp <;> omega
  have hl:s.cols.length = ms.length + 3:=by rw [hc];rfl
  have:=k2 s.cols.length (by omega)
  unfold JQ;omega
theorem jc6 {s:Sch} {m:Int} {ts:List Int} (h1:1≤ts.length) (h2:ts.length≤3) (h3:∀ v∈ts,isB s v 3 = true∧v≠m) (h4:ts.Nodup):ww s m ts = 0:=by
 rw [ww,if_neg (by omega)]
 refine Km fun i hi=>?_
 have hpi:ts.getD i 0 = ts[i]:=qk hi
 obtain ⟨a,b⟩:=h3 _ (List.getElem_mem hi)
 rw [qF4,hpi,if_neg (by rw [a];simp),if_neg]
 rintro (k | k)
 ·exact b k
 ·obtain ⟨j,hj,e⟩:=List.mem_take_iff_getElem.1 (List.contains_iff_mem.1 k)
  exact List.pairwise_iff_getElem.1 h4 j i (by omega) hi (by omega) e
theorem qn9 (s:Sch) (hd:DrS s) (m:Int) (l:List UInt8) (a:Nat) (hl:l.length≤400) (ha:a≤l.length) :
 ∃ r:List Int×Nat,((r.1.length≤3∧(0 < r.1.length→ww s m r.1 = 0))∧r.2≤l.length)∧Spc Tryz.prog yf [.ptr 0 1 0 0,schT s,vI m] [(0,oC l a)] (vIs r.1) [(0,oC l r.2)]:=by
 have hE:=hd.ok
 have hnc:=(qZ hE).nc
 have hc:=Qx s 3 (by omega)
 have hm:=fun v=>(Ja (s:=s) (kind:=3) (v:=v)).1
 have hnd:=qG4 s 3
 have hc3:=hd.meas3
 generalize JQ s 3 = L at hc hm hnd hc3
 refine jF qe3 mixm (fun r:List Int×Nat=>vIs r.1) (fun r=>[(0,oC l r.2)]) (by simp) ?_
 unfold wL
 refine sW ?_
 refine XE.mp (fun _ _=>C1.im hc (by rfl) (by rfl)) ?_
 refine sW ?_
 refine XE.loopF mixm [7,14] (fun y:Nat×List Int×Nat=>y.1≤L.length∧y.2.1.Sublist (L.take y.1)∧(∀ v∈y.2.1,v≠m)∧y.2.2≤l.length) (fun y=>[(7,.asl 1 y.2.1.length),(14,vI y.1)]) (fun y=>[(0,oC l y.2.2),(4096,.arr 2 [schT s] false),(1,.arr 1 (y.2.1.map vI) false)]) (fun y=>L.length - y.1) (0,[],a) ⟨by simp,by simp,by simp,ha⟩ (fun e ⟨_,hst⟩=>?_) fun T' y hy ih=>?_
 ·exact .oA [(0,some 0),(4096,some 4096),(1,none)] []
 obtain ⟨i,ts,a1⟩:=y
 obtain ⟨y1,y2,y3,y4⟩:=hy
 dsimp only at y1 y2 y3 y4
 have hsl:=y2.length_le
 rw [List.length_take] at hsl
 simp only [tZ,↓un_u,simprocAttr,decide_eq_true_eq,decide_eq_false_iff_not]
 refine XE.brN (fun h4=>?_) (fun h4=>?_)
 ·have hi2:i < L.length:=by omega
  have hwi:=qh (i:=i) (by omega)
  have htk:=qY hi2
  have hsub:ts.Sublist (L.take (i + 1)):=by rw [htk];exact y2.trans (List.sublist_append_left _ _)
  have hsub2:(ts ++ [L[i]]).Sublist (L.take (i + 1)):=by rw [htk];exact y2.append (List.Sublist.refl _)
  have hgi:(L.map vI).getD i .junk = vI L[i]:=qe hi2
  obtain ⟨o,a2,ha2,sO⟩:=jb3 l a1 2 hl y4 (by omega)
  generalize L[i] = v at hgi hsub2
  simp only [tZ,↓un_u,simprocAttr,Int.toNat_natCast,hgi]
  refine XE.sd (by omega) ?_
  by_cases hv:v = m
  ·have q:(v != m) = false:=bne_eq_false_iff_eq.2 hv
   simp only [tZ,↓un_u,simprocAttr,q]
   refine XE.mp (fun _ _=>C2.no (by simp)) ?_
   simp only [tZ,↓un_u,simprocAttr,hwi]
   refine XE.next ih (i + 1,ts,a1) ⟨by dsimp only;omega,hsub,y3,y4⟩ (by dsimp only;omega) fun e ⟨_,hst⟩=>?_
   exact .oA [(0,some 0),(4096,some 4096),(1,some 1)] []
  ·have q:(v != m) = true:=bne_iff_ne.2 hv
   have hin:∀ u∈ts ++ [v],u≠m:=fun u hu=>by
    rcases List.mem_append.1 hu with h | h
    ·exact y3 u h
    ·rw [List.mem_singleton.1 h];exact hv
   by_cases hts:ts.length = 0
   ·have q2:((ts.length:Int) == 0) = true:=beq_iff_eq.2 (by omega)
    simp only [tZ,↓un_u,simprocAttr,q,q2]
    refine XE.mp (fun _ _=>C2.no (by simp)) ?_
    simp only [tZ,↓un_u,simprocAttr,Int.toNat_natCast,hgi,hwi]
    refine XE.sd (by omega) (XE.sd (by omega) ?_)
    refine XE.next ih (i + 1,ts ++ [v],a1) ⟨by dsimp only;omega,hsub2,hin,y4⟩ (by dsimp only;omega) fun e ⟨_,hst⟩=>?_
    exact .oA [(0,some 0),(4096,some 4096),(1,some 1)] []
   ·have q2:((ts.length:Int) == 0) = false:=beq_eq_false_iff_ne.2 (by omega)
    simp only [tZ,↓un_u,simprocAttr,q,q2]
    refine XE.mp (fun _ _=>C2.one (by trivial)) ?_
    refine XE.mp (fun _ _=>C1.draw 0 l a1 _ sO rfl rfl rfl) ?_
    simp only [tZ,↓un_u,simprocAttr,Int.toNat_natCast,hgi,hwi]
    refine XE.brB (fun h5=>?_) (fun h5=>?_)
    ·refine XE.sd (by omega) (XE.sd (by omega) ?_)
     refine XE.next ih (i + 1,ts ++ [v],a2) ⟨by dsimp only;omega,hsub2,hin,ha2⟩ (by dsimp only;omega) fun e ⟨_,hst⟩=>?_
     exact .oA [(0,some 0),(4096,some 4096),(1,some 1)] []
    ·refine XE.next ih (i + 1,ts,a2) ⟨by dsimp only;omega,hsub,y3,ha2⟩ (by dsimp only;omega) fun e ⟨_,hst⟩=>?_
     exact .oA [(0,some 0),(4096,some 4096),(1,some 1)] []
 ·have hil:i = L.length:=by omega
  rw [hil,List.take_length] at y2
  refine XE.fin (ts,a1) ⟨⟨by dsimp only;omega,fun h=>jc6 h (by dsimp only;omega) (fun v hv=>⟨hm v (y2.subset hv),y3 v hv⟩) (hnd.sublist y2)⟩,y4⟩ fun e ⟨_,hst⟩=>?_
  exact .oA [(0,some 0)] [1]
end Go.Proofs
namespace Go.Proofs
open Go Go.TL
set_option maxRecDepth 4000
set_option maxHeartbeats 8000000
theorem jt9:Kl cnd0 cnd0 = true:=by decide +kernel
theorem qy7 {s:Sch} {nm:ByteArray} {c:Cnd} {ds:List Pk} {m:Int} (hE:schE s = 0) (h1:jh nm = true) (h2:chkC s c = 0) (h3:ZZ s ds = 0) (h4:m = -1∨isB s m 3 = true):qstE s ⟨nm,1,c,ds,m,[],cnd0⟩ = 0:=by
 have hp:kW s ⟨nm,1,c,ds,m,[],cnd0⟩ = 0:=by
  rw [kW,if_pos rfl,if_neg (by rw [h3];simp),if_neg]
  rintro ⟨a,b⟩
  rcases h4 with h | h
  ·exact a h
  ·rw [h] at b;cases b
 rw [qstE,if_neg (by rw [hE];simp),if_neg (by rw [h1];simp),if_neg (by simp),if_neg (by rw [h2];simp),if_neg (by rw [hp];simp),if_neg (by rw [jt9];simp)]
theorem jc7 {s:Sch} {nm:ByteArray} {c:Cnd} {ts:List Int} {m:Int} (hE:schE s = 0) (h1:jh nm = true) (h2:chkC s c = 0) (h3:ww s m ts = 0) (h4:isB s m 3 = true):qstE s ⟨nm,2,c,[],m,ts,cnd0⟩ = 0:=by
 have hp:kW s ⟨nm,2,c,[],m,ts,cnd0⟩ = 0:=by
  rw [kW,if_neg (by simp),if_pos rfl,if_neg (by rw [h4];simp)]
  exact h3
 rw [qstE,if_neg (by rw [hE];simp),if_neg (by rw [h1];simp),if_neg (by simp),if_neg (by rw [h2];simp),if_neg (by rw [hp];simp),if_neg (by rw [jt9];simp)]
theorem jc8 {s:Sch} {nm:ByteArray} {c d:Cnd} {m:Int} (hE:schE s = 0) (h1:jh nm = true) (h2:chkC s c = 0) (h3:chkC s d = 0) (h4:isB s m 3 = true) (h5:0≤(qj s m.toNat).low):qstE s ⟨nm,3,c,[],m,[],d⟩ = 0:=by
 have hp:kW s ⟨nm,3,c,[],m,[],d⟩ = 0:=by
  rw [kW,if_neg (by simp),if_neg (by simp),if_neg (by rw [h4];simp),if_neg (by dsimp only;omega)]
  exact h3
 rw [qstE,if_neg (by rw [hE];simp),if_neg (by rw [h1];simp),if_neg (by simp),if_neg (by rw [h2];simp),if_neg (by rw [hp];simp),if_neg (by simp)]
theorem CndOk.mono {s:Sch} {n m:Nat} {c:Cnd} (h:CndOk s n c) (hn:n≤m):CndOk s m c:=by
 have h1:=h.dep
 have h2:=h.siz
 have h3:2 ^ (n + 1)≤2 ^ (m + 1):=Nat.pow_le_pow_right (by omega) (by omega)
 exact ⟨h.ok,by omega,by omega⟩
theorem WJ (s:Sch) (hd:DrS s) (nm:ByteArray) (hnm:jh nm = true) (l:List UInt8) (a:Nat) (hl:l.length≤400) (ha:a≤l.length) :
 ∃ r:Qst×Nat,((qstE s r.1 = 0∧r.1.name = nm∧CndOk s 2 r.1.filt)∧r.2≤l.length)∧Spc Tryz.prog zo [.ptr 0 1 0 0,schT s,vS nm] [(0,oC l a)] (qstT r.1) [(0,oC l r.2)]:=by
 have hE:=hd.ok
 have hok:=qZ hE
 have hnc:=hok.nc
 have hat:∀ i (h:i < s.cols.length),qj s i = s.cols[i]:=fun i h=>by rw [qj,qk h]
 obtain ⟨j,a1,j1,j2,ha1,sN⟩:=QD l a 3 hl ha (by omega)
 obtain ⟨D,rfl⟩:=Int.eq_ofNat_of_zero_le j1
 obtain ⟨⟨c,a2⟩,⟨hc,ha2⟩,sC⟩:=Qp s hd l hl D a1 ha1 (by omega)
 dsimp only at hc ha2 sC
 have hcf:=hc.chk hE (by omega)
 have hcm:=hc.mono (m:=2) (by omega)
 obtain ⟨v,a3,hv,ha3,sV⟩:=Qo s hd l a2 hl ha2
 obtain ⟨_,v2,v3⟩:=zP.1 hv
 rw [Int.toNat_natCast] at v3
 have hil:v < s.cols.length:=by omega
 obtain ⟨w,a4,w1,w2,ha4,sK⟩:=QD l a3 4 hl ha3 (by omega)
 refine jF Wv mixm (fun r:Qst×Nat=>qstT r.1) (fun r=>[(0,oC l r.2)]) (by simp) ?_
 unfold kg
 refine sW ?_
 refine XE.mp (fun _ _=>C1.draw 0 l a _ sN rfl rfl rfl) ?_
 refine sW ?_
 refine XE.mp (fun _ _=>C1.draw 0 l a1 _ sC rfl rfl rfl) ?_
 refine sW ?_
 refine XE.sd (by kernel_rfl) ?_
 refine XE.mp (fun _ _=>C1.draw 0 l a2 _ sV rfl rfl rfl) ?_
 refine sW ?_
 refine XE.mp (fun _ _=>C1.draw 0 l a3 _ sK rfl rfl rfl) ?_
 simp only [tZ,↓un_u,simprocAttr,beq_iff_eq,beq_eq_false_iff_ne]
 refine XE.brN (fun h1=>?_) (fun h1=>XE.brN (fun h2=>?_) (fun h2=>XE.brN (fun h3=>?_) (fun h3=>?_)))
 ·obtain ⟨⟨ds,b2⟩,⟨hds,hb2⟩,sQ⟩:=kS s hd l a4 hl ha4
  dsimp only at hds hb2 sQ
  refine XE.mp (fun _ _=>C1.draw 0 l a4 _ sQ rfl rfl rfl) ?_
  refine sW ?_
  refine XE.fin (⟨nm,1,c,ds,v,[],cnd0⟩,b2) ⟨⟨qy7 hE hnm hcf hds (.inr hv),rfl,hcm⟩,hb2⟩ fun e ⟨_,hst⟩=>?_
  exact .oA [(0,some 0)] []
 ·obtain ⟨⟨ts,a5⟩,⟨⟨ht1,ht2⟩,ha5⟩,sT⟩:=qn9 s hd v l a4 hl ha4
  dsimp only at ht1 ht2 ha5 sT
  refine XE.mp (fun _ _=>C1.draw 0 l a4 _ sT rfl rfl rfl) ?_
  simp only [tZ,↓un_u,simprocAttr,decide_eq_true_eq,decide_eq_false_iff_not]
  refine XE.brN (fun h3=>?_) (fun h3=>?_)
  ·refine XE.fin (⟨nm,2,c,[],v,ts,cnd0⟩,a5) ⟨⟨jc7 hE hnm hcf (ht2 (by omega)) hv,rfl,hcm⟩,ha5⟩ fun e ⟨_,hst⟩=>?_
   exact .oA [(0,some 0)] []
  ·obtain ⟨⟨ds,b2⟩,⟨hds,hb2⟩,sQ⟩:=kS s hd l a5 hl ha5
   dsimp only at hds hb2 sQ
   refine XE.mp (fun _ _=>C1.draw 0 l a5 _ sQ rfl rfl rfl) ?_
   refine sW ?_
   refine XE.fin (⟨nm,1,c,ds,-1,[],cnd0⟩,b2) ⟨⟨qy7 hE hnm hcf hds (.inl rfl),rfl,hcm⟩,hb2⟩ fun e ⟨_,hst⟩=>?_
   exact .oA [(0,some 0)] []
 ·simp only [tZ,↓un_u,simprocAttr,Int.toNat_natCast,qe hil,decide_eq_true_eq,decide_eq_false_iff_not]
  refine XE.sd (by omega) ?_
  refine XE.brN (fun h4=>?_) (fun h4=>?_)
  ·obtain ⟨⟨d,a5⟩,⟨hdc,ha5⟩,sE⟩:=Qp s hd l hl 1 a4 ha4 (by omega)
   dsimp only at hdc ha5 sE
   refine XE.mp (fun _ _=>C1.draw 0 l a4 _ sE rfl rfl rfl) ?_
   refine sW ?_
   refine XE.fin (⟨nm,3,c,[],v,[],d⟩,a5) ⟨⟨jc8 hE hnm hcf (hdc.chk hE (by omega)) hv (by rw [Int.toNat_natCast,hat v hil];omega),rfl,hcm⟩,ha5⟩ fun e ⟨_,hst⟩=>?_
   exact .oA [(0,some 0)] []
  ·obtain ⟨⟨ds,b2⟩,⟨hds,hb2⟩,sQ⟩:=kS s hd l a4 hl ha4
   dsimp only at hds hb2 sQ
   refine XE.mp (fun _ _=>C1.draw 0 l a4 _ sQ rfl rfl rfl) ?_
   refine sW ?_
   refine XE.fin (⟨nm,1,c,ds,-1,[],cnd0⟩,b2) ⟨⟨qy7 hE hnm hcf hds (.inl rfl),rfl,hcm⟩,hb2⟩ fun e ⟨_,hst⟩=>?_
   exact .oA [(0,some 0)] []
 ·obtain ⟨⟨ds,b2⟩,⟨hds,hb2⟩,sQ⟩:=kS s hd l a4 hl ha4
  dsimp only at hds hb2 sQ
  refine XE.mp (fun _ _=>C1.draw 0 l a4 _ sQ rfl rfl rfl) ?_
  refine sW ?_
  refine XE.fin (⟨nm,1,c,ds,-1,[],cnd0⟩,b2) ⟨⟨qy7 hE hnm hcf hds (.inl rfl),rfl,hcm⟩,hb2⟩ fun e ⟨_,hst⟩=>?_
  exact .oA [(0,some 0)] []
theorem zt (s:Sch) (hd:DrS s) (nm:ByteArray) (hnm:jh nm = true) (l:List UInt8) (a:Nat) (hl:l.length≤400) (ha:a≤l.length) :
 ∃ r:Qst×Nat,((qstE s r.1 = 0∧r.1.name = nm)∧r.2≤l.length)∧Spc Tryz.prog zo [.ptr 0 1 0 0,schT s,vS nm] [(0,oC l a)] (qstT r.1) [(0,oC l r.2)]:=by
 obtain ⟨r,⟨⟨h1,h2,_⟩,h3⟩,h⟩:=WJ s hd nm hnm l a hl ha
 exact ⟨r,⟨⟨h1,h2⟩,h3⟩,h⟩
end Go.Proofs
namespace Go.Proofs
open Go Go.TL
set_option maxRecDepth 4000
set_option maxHeartbeats 8000000
theorem zx7 {l:List Pk} {k F:Int} (hF:0≤F) (h:∀ p∈l,p.col = k→p.lev≤F):mxl l k≤F:=by
 induction l with
 | nil=>exact hF
 | cons p r ih=>
   have h1:=ih fun q hq=>h q (List.mem_cons_of_mem _ hq)
   rw [mxl]
   split
   ·rename_i e
    have:=h p (by simp) e
    omega
   ·exact h1
theorem zi0 {s:Sch} {c lev:Int} (h:0≤lev) (h2:lev≤finI s c):yH s c lev≤lev∧0≤yH s c lev∧divB s c.toNat (yH s c lev).toNat lev.toNat = true∧∀ m:Nat,(m:Int) < yH s c lev→divB s c.toNat m lev.toNat = false:=by
 have h59:lev≤59∨schE s≠0:=by
  by_cases e:schE s = 0
  ·have:=qf7 (c:=c) e;exact .inl (by omega)
  ·exact .inr e
 have hE:schE s = 0:=(Wb (s:=s) (c:=c) (by omega)).1
 have h59:=qf7 (c:=c) hE
 rw [yH,if_neg (by rw [Bool.not_eq_false,Yy];omega)]
 obtain ⟨a,b,_,d⟩:=qf6 (p:=fun n=>divB s c.toNat n lev.toNat) (N:=lev.toNat) (zw6 s _ _) 64 0 (by omega) (by omega)
 refine ⟨by omega,by omega,by rw [Int.toNat_natCast];exact a,fun m hm=>d m (by omega) (by omega)⟩
theorem qG9 {s:Sch} (hE:schE s = 0) {k:Nat} (h1:1≤k) (h2:k < s.cols.length):0≤finI s k:=by
 have hok:=qZ hE
 have hkk:=zf (hok.cs k h2)
 have h3:=hkk.2.2.1 h1
 refine (zS3 hE (v:=k) ?_).2.2.1
 rcases (show (qj s k).kind = 2∨(qj s k).kind = 3 by omega) with h | h
 ·exact .inl (zP.2 ⟨by omega,by omega,by rw [Int.toNat_natCast];exact h⟩)
 ·exact .inr (zP.2 ⟨by omega,by omega,by rw [Int.toNat_natCast];exact h⟩)
theorem jo8 {s:Sch} {c:Cnd} (h:chkC s c = 0):∀ p∈atP s c,p.lev≤finI s p.col:=fun p hp=>by
 obtain ⟨hE,k2,k3,k4⟩:=qr9 h
 obtain ⟨a,ha,rfl⟩:=List.mem_map.1 hp
 obtain ⟨hnd,hia⟩:=zw3 c k4 a ha
 exact (qF8 hE hnd hia).1
theorem zT8 {s:Sch} {c:Cnd} (h:chkC s c = 0):∀ p∈jS s c,p.lev≤finI s p.col:=fun p hp=>by
 have hE:=(qr9 h).1
 obtain ⟨h1,h2⟩:=YS h
 rw [h1,yJ] at hp
 obtain ⟨k,k1,k2,rfl⟩:=hp
 have h0:1≤k:=by
  rcases Nat.eq_zero_or_pos k with e | e
  ·subst e
   rw [Wj fun q hq=>by have:=h2 q hq;omega] at k2
   omega
  ·exact e
 exact zx7 (qG9 hE h0 k1) fun p hp e=>by rw [← e];exact jo8 h p hp
theorem zT9 {s:Sch} {q:Qst} (hq:QstOk s q):∀ p∈qL5 s q,p.lev≤finI s p.col:=fun p hp=>by
 unfold qL5 at hp
 rcases List.mem_append.1 hp with hp | hp
 ·rcases List.mem_append.1 hp with hp | hp
  ·obtain ⟨d,hd,rfl⟩:=List.mem_map.1 hp
   obtain ⟨_,h1,h2,h3,h4⟩:=zw5 (zh9 hq d hd).1
   have:=zi0 h3 h4
   dsimp only;omega
  ·obtain ⟨k,h1,h2,rfl⟩:=zT7.1 hp
   unfold usB at h2
   rw [Bool.and_eq_true,decide_eq_true_eq] at h2
   have h3:=qG9 hq.sch (k:=k) (by omega) h1
   have:=zi0 h3 (Int.le_refl _)
   dsimp only;omega
 ·obtain ⟨c,hc,hp⟩:=List.mem_flatMap.1 hp
  exact zT8 (zx6 hq c hc) p hp
theorem zU0 {f g:Nat→Int} {n:Nat} (h:∀ k,k < n→f k≤g k):covB (canF f n) (canF g n) = true:=by
 unfold covB
 rw [List.all_eq_true]
 intro p hp
 obtain ⟨k,k1,k2,rfl⟩:=yJ.1 hp
 have:=h k k1
 exact List.any_eq_true.2 ⟨⟨k,g k⟩,yJ.2 ⟨k,k1,by omega,rfl⟩,by rw [Bool.and_eq_true,beq_iff_eq,decide_eq_true_eq];exact ⟨rfl,this⟩⟩
end Go.Proofs
namespace Go.Proofs
open Go Go.TL
set_option maxRecDepth 4000
set_option maxHeartbeats 8000000
theorem qH0 {s:Sch} (hok:SchOk s) {i:Nat} (hi:i < s.cols.length) (h2:(qj s i).kind = 2) {v:Int}:kI s i v = true↔v∈qS s i:=by
 obtain ⟨_,d2⟩:=hok.cdl hi h2
 constructor
 ·intro h
  rw [kI,if_neg (by omega),if_pos h2,Bool.and_eq_true,Yy,beq_iff_eq] at h
  obtain ⟨⟨g1,g2⟩,g3⟩:=h
  obtain ⟨c,rfl⟩:=Int.eq_ofNat_of_zero_le g1
  rw [lvlC,if_neg (not_or.2 ⟨fun h=>h d2,by omega⟩),Int.toNat_natCast] at g3
  exact (Zx hok hi h2).2 ⟨c,rfl,by omega,g3⟩
 ·intro h;exact Ki h2 d2 h
structure MeasC (s:Sch) (i:Nat):Prop where
 kind:(qj s i).kind = 3
 fin:finI s i = (qj s i).widths.length
 wid:∀ l:Nat,1≤l→l≤(qj s i).widths.length→1≤zm (qj s i) l
 one:zm (qj s i) (qj s i).widths.length = 1
 lh : -1000000≤(qj s i).low∧(qj s i).low≤(qj s i).high∧(qj s i).high≤1000000
 nw:1≤(qj s i).widths.length
 dv:∀ {o l:Nat},1≤o→o < l→l≤(qj s i).widths.length→∃ k:Int,2≤k∧zm (qj s i) o = k * zm (qj s i) l
end Go.Proofs
namespace Go.Proofs
open Go Go.TL
set_option maxRecDepth 4000
set_option maxHeartbeats 8000000
end Go.Proofs
namespace Go.Proofs
open Go Go.TL
set_option maxRecDepth 4000
set_option maxHeartbeats 8000000
theorem zi1:∀ {l:List Pk} {p:Pk},p∈l→p.lev≤mxl l p.col
 | q :: r,p,h=>by
   rw [mxl]
   rcases List.mem_cons.1 h with e | h
   ·subst e;rw [if_pos rfl];omega
   ·have:=zi1 h
    split <;> omega
theorem qV7:∀ {l:List Pk} {k:Int},0 < mxl l k→∃ p∈l,p.col = k∧p.lev = mxl l k
 | [],k,h=>by rw [mxl] at h;omega
 | p :: r,k,h=>by
   rw [mxl] at h ⊢
   by_cases e:p.col = k
   ·rw [if_pos e] at h ⊢
    by_cases h2:mxl r k≤p.lev
    ·exact ⟨p,by simp,e,by omega⟩
    ·obtain ⟨x,h3,h4,h5⟩:=qV7 (l:=r) (k:=k) (by omega)
     exact ⟨x,List.mem_cons_of_mem _ h3,h4,by omega⟩
   ·rw [if_neg e] at h ⊢
    obtain ⟨x,h3,h4,h5⟩:=qV7 (l:=r) (k:=k) h
    exact ⟨x,List.mem_cons_of_mem _ h3,h4,h5⟩
end Go.Proofs
namespace Go.Proofs
open Go Go.TL
set_option maxRecDepth 4000
set_option maxHeartbeats 8000000
theorem YE (x y:Qst):Spc Tryz.prog jd [qstT x,.ip (qstT y).cells] [] (vB (eqB x.name y.name)) []:=by
 refine qd WB mixm (by simp) fun e _ hst=>qg ?_
 unfold kj
 refine sW ?_
 rw [show (x.name.toList == y.name.toList) = eqB x.name y.name from rfl]
 exact .oA [] []
theorem Jh (p:Qst→Bool) (f:FuncId) (caps:List T) (hcap:imL caps = true) (l:List Qst) (hf:∀ y∈l,Spc Tryz.prog f (qstT y :: caps) [] (vB (p y)) []) (hl:l.length < 4611686018427387904) :
 Spc Tryz.prog zL [.sl 17 (l.map qstT),.clo f caps] [] (vI (idxI p l)) []:=by
 refine qd Zp mixm (by simp) fun e _ hst=>qg ?_
 unfold zF
 refine sW ?_
 refine qu mixm (α:=Nat) [8] (fun i=>i≤l.length∧((l.take i).any p = false)) (fun i=>[(8,vI i)]) (fun i=>[]) (fun i=>l.length - i) 0 ⟨by omega,?_⟩ ?_ fun i hi=>?_
 ·simp
 ·exact .oA [] []
 simp only [tZ,↓un_u,simprocAttr,decide_eq_true_eq,decide_eq_false_iff_not]
 refine ⟨fun h=>?_,fun h=>?_⟩
 ·have hi2:i < l.length:=by omega
  have hwi:=qh (i:=i) (by omega)
  simp only [tZ,↓un_u,simprocAttr,Int.toNat_natCast,qe hi2,hwi,qd0]
  refine ⟨by omega,?_⟩
  refine C1.im (hf l[i] (List.getElem_mem hi2)) (WZ rfl hcap) rfl ?_
  refine sW ?_
  refine ⟨fun h3=>?_,fun h3=>⟨i + 1,⟨by omega,zQ hi2 hi.2 h3⟩,by omega,?_⟩⟩
  ·rw [idxI,if_pos (qi2 hi2 h3),yQ hi2 hi.2 h3]
   exact .imR rfl rfl
  ·exact .oA [] []
 ·have h2:i = l.length:=by omega
  have h3:=hi.2
  rw [h2,List.take_length] at h3
  rw [idxI,if_neg (by rw [h3];simp)]
  exact .imR rfl rfl
theorem QG (p:Qst→Bool) (f:FuncId) (caps:List T) (hcap:imL caps = true) (l:List Qst) (hf:∀ y∈l,Spc Tryz.prog f (qstT y :: caps) [] (vB (p y)) []) (hl:l.length < 4611686018427387904) :
 Spc Tryz.prog zq [.sl 17 (l.map qstT),.clo f caps] [] (vB (l.any p)) []:=by
 refine qd Qc mixm (by simp) fun e _ hst=>qg ?_
 unfold zk
 refine sW ?_
 refine C1.im (Jh p f caps hcap l hf hl) (qi3 rfl hcap) rfl ?_
 refine sW ?_
 rw [show decide (idxI p l≥0) = l.any p from qd1 p l]
 exact .imR rfl rfl
theorem Ji (s:Sch) (hs:Ze s) (d:Dcl):Spc Tryz.prog jI [schT s,dclT d] [] (vI (dclE s d)) []:=by
 refine qd YY mixm (by simp) fun e _ hst=>qg ?_
 unfold wi
 refine sW ?_
 refine C1.im (jY s hs.2.1 hs.1) (by rfl) (by rfl) ?_
 simp only [tZ,↓un_u,simprocAttr,bne_iff_ne,bne_eq_false_iff_eq]
 refine ⟨fun h=>?_,fun h=>?_⟩
 ·rw [dclE,if_pos h]
  exact .oA [] []
 rw [dclE,if_neg (by rw [h];simp)]
 refine C1.im (wU d.proj) (by rfl) (by rfl) ?_
 refine sW ?_
 refine C2.im (fun _=>wU d.src) (fun _=>rfl) (by rfl) ?_
 simp only [tZ,↓un_u,simprocAttr,tD,Bool.not_eq_true',Bool.not_eq_false']
 refine ⟨fun h2=>?_,fun h2=>?_⟩
 ·rw [if_pos h2]
  exact .oA [] []
 rw [if_neg (by rw [h2.1,h2.2];simp)]
 refine C1.im (kT s hs d.coh) (by rfl) (by rfl) ?_
 simp only [tZ,↓un_u,simprocAttr,bne_iff_ne,bne_eq_false_iff_eq]
 refine ⟨fun h3=>?_,fun h3=>?_⟩
 ·rw [if_pos h3]
  exact .oA [] []
 rw [if_neg (by rw [h3];simp)]
 simp only [tZ,↓un_u,simprocAttr,tD,gt_iff_lt,beq_iff_eq,beq_eq_false_iff_ne]
 refine ⟨fun h4=>?_,fun h4=>?_⟩
 ·have:smpE d.smp≠0:=by rw [smpE,if_pos (by omega)];simp
  rw [if_pos this]
  exact .oA [] []
 have h5:smpE d.smp = 0:=by rw [smpE,if_neg (by omega)]
 rw [if_neg (by rw [h5];simp)]
 refine ⟨fun h6=>?_,fun h6=>?_⟩
 ·rw [if_pos (by omega)]
  exact .oA [] []
 rw [if_neg (by omega)]
 generalize hE:zx (qsE s d.qs) d.qs.length = E
 refine qu mixm (α:=Nat) [80] (fun i=>i≤d.qs.length∧(zx (qsE s d.qs) i = 0)) (fun i=>[(80,vI i)]) (fun i=>[(4096,.arr 2 [schT s] false),(4100,.arr 12 [dclT d] false)]) (fun i=>d.qs.length - i) 0 ⟨by omega,?_⟩ ?_ fun i hi=>?_
 ·rfl
 ·exact .oA [(4096,some 4096),(4100,some 4100)] []
 simp only [tZ,↓un_u,simprocAttr,decide_eq_true_eq,decide_eq_false_iff_not]
 refine ⟨fun h=>?_,fun h=>?_⟩
 ·have hi2:i < d.qs.length:=by omega
  have hpi:qAt d.qs i = d.qs[i]:=by rw [qAt,qk hi2]
  have hstep:=Qn hi.2 hi2
  have hnext:=jT hi.2
  have hA:qsE s d.qs i = if qstE s d.qs[i]≠0 then qstE s d.qs[i] else if ((d.qs.take i).any fun x=>eqB x.name d.qs[i].name) = true then 10 else 0:=by rw [qsE,hpi]
  rw [hE] at hstep
  have hQ:=yN s hs d.qs[i]
  have hCF:=QG (fun x=>eqB x.name d.qs[i].name) jd [.ip (qstT d.qs[i]).cells] rfl (d.qs.take i) (fun x _=>YE x d.qs[i]) (by rw [List.length_take];omega)
  have hi2:i < d.qs.length:=by omega
  have hwi:=qh (i:=i) (by omega)
  simp only [tZ,↓un_u,simprocAttr,Int.toNat_natCast,qe hi2,hwi]
  refine ⟨by omega,?_⟩
  refine C1.im hQ (by rfl) (by rfl) ?_
  simp only [tZ,↓un_u,simprocAttr,bne_iff_ne,bne_eq_false_iff_eq]
  refine ⟨fun h7=>?_,fun h7=>?_⟩
  ·rw [if_pos h7] at hA
   rw [hstep (by rw [hA];exact h7),hA]
   exact .oA [] []
  rw [if_neg (by rw [h7];simp)] at hA
  refine ⟨by omega,?_⟩
  rw [WX,qC2]
  refine C1.lend [69644] hCF ?_ (by rfl) (by rfl) ?_
  ·all_goals (try simp only [tL,simprocAttr,List.map_append,List.map_cons,List.map_nil,List.cons_append,List.nil_append])
   all_goals (try (repeat' (first | exact qR | (apply zd;intro _;exact ⟨rfl,rfl⟩) | (apply qz;intro _;exact ⟨rfl,rfl⟩) | with_reducible apply qG | with_reducible refine qE ⟨rfl,rfl⟩ ?_ | exact qO | with_reducible apply qA | with_reducible refine qJ ⟨rfl,rfl,?_⟩ ?_ | with_reducible apply And.intro | exact qD rfl | exact qD (by assumption) | (refine ⟨⟨?_,rfl,?_,rfl,?_⟩,trivial⟩ <;> first | (simp;done) | (apply qz;intro _;exact ⟨rfl,rfl⟩)) | trivial | rfl | (rw [qh (by omega)]) | omega)))
   simp only [ltP]
   exact ⟨rfl,by decide,rfl,qE ⟨rfl,rfl⟩ qO⟩
  simp only [tZ,↓un_u,simprocAttr,hwi]
  refine ⟨fun h8=>?_,fun h8=>?_⟩
  ·rw [if_pos h8] at hA
   rw [hstep (by rw [hA];simp),hA]
   exact .oA [] []
  ·rw [if_neg (by rw [h8];simp)] at hA
   refine ⟨i + 1,⟨by omega,by rw [hnext,hA]⟩,by omega,?_⟩
   exact .oA [(4096,some 4096),(4100,some 4100)] []
 ·have hi2:i = d.qs.length:=by omega
  subst hi2
  rw [← hE,hi.2]
  exact .oA [] []
def zi2 (s:Sch) (qs:List Qst):List Pk:=qs.flatMap (wW s)
theorem qV8 {s:Sch} (q:Qst):∀ p∈wW s q,1≤p.col∧p.col < s.cols.length:=fun p hp=>by
 by_cases h:qstE s q = 0
 ·have hq:=qg0 h
  rw [Ks h] at hp
  obtain ⟨k,k1,k2,rfl⟩:=yJ.1 hp
  refine ⟨?_,by dsimp only;omega⟩
  dsimp only
  rcases Nat.eq_zero_or_pos k with e | e
  ·subst e
   rw [Wj fun q' hq'=>by have:=qV6 hq q' hq';omega] at k2
   omega
  ·omega
 ·rw [wW,if_pos h] at hp
  simp at hp
theorem kU {s:Sch} {d:Dcl} (h:dclE s d = 0):zU s d = canF (fun k=>mxl (zi2 s d.qs) k) s.cols.length:=by
 rw [zU,if_neg (by rw [h];simp)]
 have key:∀ qs:List Qst,∀ l,qs.foldl (fun l q=>JP l (wW s q)) l = JP l (zi2 s qs):=by
  intro qs
  induction qs with
  | nil=>intro l;rfl
  | cons q r ih=>
    intro l
    rw [List.foldl_cons,ih,← qn8];rfl
 rw [key]
 refine zh7 fun p hp=>?_
 obtain ⟨q,hq,hp⟩:=List.mem_flatMap.1 hp
 have:=qV8 q p hp
 omega
theorem YF (s:Sch) (hs:Ze s) (d:Dcl) (h:dclE s d = 0):Spc Tryz.prog yd [schT s,dclT d] [] (vPs (zU s d)) []:=by
 obtain ⟨hE,_,_,_,_,hq1,hq2,_⟩:=Yx h
 have hnc:=(qZ hE).nc
 rw [kU h,zi2,List.flatMap_def]
 have hbl:∀ l∈d.qs.map (wW s),l.length≤1000:=fun l hl=>by
  obtain ⟨q,_,rfl⟩:=List.mem_map.1 hl
  have:=qG1 s q
  omega
 have hbb:∀ l∈d.qs.map (wW s),∀ p∈l,0≤p.col∧p.col < s.cols.length:=fun l hl p hp=>by
  obtain ⟨q,_,rfl⟩:=List.mem_map.1 hl
  have:=qV8 q p hp
  omega
 have hM:=Kr (d.qs.map (wW s)) s.cols.length (by omega) (by omega) (by rw [List.length_map];omega) hbl hbb
 refine qd qv2 mixm (by simp) fun e _ hst=>qg ?_
 unfold QR
 refine sW ?_
 refine qu mixm (α:=Nat) [5,11] (fun i=>i≤d.qs.length) (fun i=>[(5,.asl 1 i),(11,vI i)]) (fun i=>[(4096,.arr 2 [schT s] false),(1,.arr 1 ((d.qs.take i).map fun q=>vPs (wW s q)) false)]) (fun i=>d.qs.length - i) 0 (by omega) ?_ fun i hi=>?_
 ·exact .oA [(4096,some 4096),(1,none)] []
 have htl:(d.qs.take i).length = i:=by rw [List.length_take];omega
 refine sD ?_
 refine ⟨fun h3=>?_,fun h3=>?_⟩
 ·have hi2:i < d.qs.length:=by omega
  have hwi:=qh (i:=i) (by omega)
  have hN:=Kt s hs d.qs[i]
  simp only [tZ,↓un_u,simprocAttr,Int.toNat_natCast,qe hi2]
  refine ⟨by omega,?_⟩
  refine C1.im hN (by rfl) (by rfl) ?_
  simp only [tZ,↓un_u,simprocAttr,hwi]
  refine ⟨by omega,i + 1,by omega,by omega,?_⟩
  rw [qY hi2,List.map_append]
  exact .oA [(4096,some 4096),(1,some 1)] []
 ·have hil:i = d.qs.length:=by omega
  subst hil
  rw [List.take_length]
  rw [List.map_map] at hM
  refine C1.shut [1] hM ?_ (by rfl) rfl ?_
  ·all_goals (try exact clA)
  refine sW ?_
  exact .oA [] []
theorem kK (s:Sch) (hs:Ze s) (d:Dcl):Spc Tryz.prog zK [schT s,dclT d] [] (.tup [vPs (zU s d),vI (dclE s d)]) []:=by
 refine qd qv0 mixm (by simp) fun e _ hst=>qg ?_
 unfold QQ
 refine sW ?_
 refine C1.im (Ji s hs d) (by rfl) (by rfl) ?_
 simp only [tZ,↓un_u,simprocAttr,bne_iff_ne,bne_eq_false_iff_eq]
 refine ⟨fun h=>?_,fun h=>?_⟩
 ·rw [zU,if_pos h]
  exact .oA [] []
 refine C1.im (YF s hs d h) (by rfl) (by rfl) ?_
 rw [h]
 refine sW ?_
 exact .oA [] []
theorem Qr (a b:List Pk) (ha:a.length < 4611686018427387904) (hb:b.length < 4611686018427387904):Spc Tryz.prog jt [vPs a,vPs b] [] (vB (covB a b)) []:=by
 refine qd qi8 mixm (by simp) fun e _ hst=>qg ?_
 unfold yp
 refine sW ?_
 refine C1.im (qn6 b a hb ha) (by rfl) (by rfl) ?_
 refine sW ?_
 exact .oA [] []
theorem qV9 {a b:List Pk}:covB a b = true↔∀ x∈a,∃ y∈b,y.col = x.col∧x.lev≤y.lev:=by
 unfold covB
 simp only [List.all_eq_true,List.any_eq_true,Bool.and_eq_true,beq_iff_eq,decide_eq_true_eq]
theorem zU1 {s:Sch} {d:Dcl} (h:dclE s d = 0) (l:List Pk) (hl:l.Pairwise fun a b=>a.col < b.col):covB (zU s d) l = d.qs.all fun q=>covB (wW s q) l:=by
 rw [Bool.eq_iff_iff,qV9,List.all_eq_true,kU h]
 constructor
 ·intro H q hq
  rw [qV9]
  intro x hx
  have hb:=qV8 q x hx
  have hm:x∈zi2 s d.qs:=List.mem_flatMap.2 ⟨q,hq,hx⟩
  have hge:=zi1 hm
  obtain ⟨k,hk⟩:=Int.eq_ofNat_of_zero_le (show 0≤x.col by omega)
  rw [hk] at hge
  have hx0:0 < x.lev:=by
   by_cases hq0:qstE s q = 0
   ·rw [Ks hq0] at hx
    obtain ⟨_,_,k2,rfl⟩:=yJ.1 hx
    exact k2
   ·rw [wW,if_pos hq0] at hx;simp at hx
  obtain ⟨y,hy,e1,e2⟩:=H ⟨k,mxl (zi2 s d.qs) k⟩ (yJ.2 ⟨k,by omega,by omega,rfl⟩)
  exact ⟨y,hy,by rw [e1,hk],by dsimp only at e2;omega⟩
 ·intro H x hx
  obtain ⟨k,k1,k2,rfl⟩:=yJ.1 hx
  obtain ⟨p,hp,e1,e2⟩:=qV7 k2
  obtain ⟨q,hq,hp2⟩:=List.mem_flatMap.1 hp
  obtain ⟨y,hy,e3,e4⟩:=qV9.1 (H q hq) p hp2
  exact ⟨y,hy,by rw [e3,e1],by dsimp only;omega⟩
theorem jc9 {s:Sch} {d:Dcl} (h:dclE s d = 0) {l:List Pk} (hl:qm1 s l = 0):zf9 s d l = if covB (zU s d) l = true then 0 else 23:=by
 obtain ⟨_,_,hasc⟩:=zR5 hl
 obtain ⟨_,_,_,_,_,_,_,hqs⟩:=Yx h
 rw [zf9,if_neg (by rw [h];simp),if_neg (by rw [hl];simp),zU1 h l hasc]
 have hs:∀ i,i < d.qs.length→sufB s (qAt d.qs i) l = covB (wW s (qAt d.qs i)) l:=fun i hi=>by
  rw [sufB,hqs i hi,hl];simp
 by_cases hall:(d.qs.all fun q=>covB (wW s q) l) = true
 ·rw [if_pos hall]
  refine Km fun i hi=>?_
  have:=List.all_eq_true.1 hall (qAt d.qs i) (by rw [qAt,qk hi];exact List.getElem_mem _)
  rw [hs i hi,this];rfl
 ·rw [if_neg hall]
  refine Classical.byContradiction fun hne=>hall ?_
  rw [List.all_eq_true]
  intro q hq
  obtain ⟨i,hi,rfl⟩:=List.getElem_of_mem hq
  have key:∀ n,n≤d.qs.length→(zx (fun i=>if sufB s (qAt d.qs i) l = true then 0 else 23) n = 0∨zx (fun i=>if sufB s (qAt d.qs i) l = true then 0 else 23) n = 23):=by
   intro n
   induction n with
   | zero=>intro _;exact .inl rfl
   | succ n ih=>
     intro hn
     rw [zx]
     rcases ih (by omega) with e | e
     ·rw [if_neg (by rw [e];simp)];split <;> simp
     ·rw [if_pos (by rw [e];simp)];exact .inr e
  have h0:=(key _ (Nat.le_refl _)).resolve_right hne
  have:=Zw h0 i hi
  rw [hs i hi,qAt,qk hi] at this
  by_cases e:covB (wW s d.qs[i]) l = true
  ·exact e
  ·rw [if_neg e] at this;cases this
theorem qx5 (s:Sch) (hs:Ze s) (d:Dcl) (l:List Pk) (hl:l.length < 4611686018427387904):Spc Tryz.prog QK [schT s,dclT d,vPs l] [] (vI (zf9 s d l)) []:=by
 have hpl:=qm5 s d
 refine qd qp3 mixm (by simp) fun e _ hst=>qg ?_
 unfold yX
 refine sW ?_
 refine C1.im (Ji s hs d) (by rfl) (by rfl) ?_
 simp only [tZ,↓un_u,simprocAttr,bne_iff_ne,bne_eq_false_iff_eq]
 refine ⟨fun h=>?_,fun h=>?_⟩
 ·rw [zf9,if_pos h]
  exact .oA [] []
 refine C1.im (qL4 s hs l hl) (by rfl) (by rfl) ?_
 simp only [tZ,↓un_u,simprocAttr,bne_iff_ne,bne_eq_false_iff_eq]
 refine ⟨fun h2=>?_,fun h2=>?_⟩
 ·rw [zf9,if_neg (by rw [h];simp),if_pos h2]
  exact .oA [] []
 rw [jc9 h h2]
 refine C1.im (YF s hs d h) (by rfl) (by rfl) ?_
 refine sW ?_
 refine C1.im (Qr (zU s d) l (by omega) hl) (by rfl) (by rfl) ?_
 simp only [tZ,↓un_u,simprocAttr,Bool.not_eq_true',Bool.not_eq_false']
 refine ⟨fun h3=>?_,fun h3=>?_⟩
 ·rw [if_neg (by rw [h3];simp)]
  exact .oA [] []
 ·rw [if_pos h3]
  exact .oA [] []
end Go.Proofs
namespace Go.Proofs
open Go Go.TL
set_option maxRecDepth 4000
set_option maxHeartbeats 8000000
def Qb (s:Sch) (q:Qst) (k:Nat) (lev:Int) (x y:Int):Prop:=qT s k lev x = qT s k lev y∧zT4 s q k x y = true
structure FirstV (s:Sch) (q:Qst) (k:Nat) (lev:Int) (x y:Int):Prop where
 hx:kI s k x = true
 hy:kI s k y = true
 lt:x < y
 qb:Qb s q k lev x y
 least:∀ x' y',kI s k x' = true→kI s k y' = true→x' < y'→Qb s q k lev x' y'→x < x'∨(x = x'∧y≤y')
structure LeastX (s:Sch) (q:Qst) (k:Nat) (lev:Int) (x:Int):Prop where
 lo:(qj s k).low < x
 hi:x≤(qj s k).high
 qb:Qb s q k lev (x - 1) x
 least:∀ y,(qj s k).low < y→y < x→¬ Qb s q k lev (y - 1) y
def zU2 (s:Sch) (q:Qst) (k:Nat) (lev a b:Int):Prop:=
 if (qj s k).kind = 2 then FirstV s q k lev a b
 else if lev = 0∧(qj s k).opt = true then a = qf5∧b = (qj s k).low
 else LeastX s q k lev b∧a = (if lev = 0 then (qj s k).low else max (qj s k).low (qT s k lev b))
def WitR (s:Sch) (d:Dcl) (col:Int) (w:Int×Int×Int×Bool):Prop:=
 (¬ (dclE s d = 0∧0 < mxl (zU s d) col)∧w = (0,0,0,false))∨
 (dclE s d = 0∧∃ (k n:Nat) (a b:Int),col = k∧0 < k∧k < s.cols.length∧0 < mxl (zU s d) k∧n < d.qs.length∧mxl (wW s (qAt d.qs n)) k = mxl (zU s d) k∧(∀ m,m < n→mxl (wW s (qAt d.qs m)) k≠mxl (zU s d) k)∧zU2 s (qAt d.qs n) k (mxl (zU s d) k - 1) a b∧w = (a,b,(n:Int),true))
theorem zi3 {s:Sch} {q:Qst} (h:qstE s q = 0) {k:Nat} (hk:k < s.cols.length):mxl (wW s q) k = mxl (qL5 s q) k:=by
 rw [Ks h,qy6 fun k=>Jg _ _,if_pos hk]
theorem zU3 {s:Sch} {d:Dcl} (h:dclE s d = 0) {k:Nat} (hk:k < s.cols.length):mxl (zU s d) k = mxl (zi2 s d.qs) k:=by
 rw [kU h,qy6 fun k=>Jg _ _,if_pos hk]
theorem ju0 {l:List Pk} {k:Int} (h:0 < mxl l k):∃ p∈l,p.col = k:=by
 obtain ⟨p,hp,e,_⟩:=qV7 h
 exact ⟨p,hp,e⟩
end Go.Proofs
namespace Go.Proofs
open Go Go.TL
set_option maxRecDepth 4000
set_option maxHeartbeats 8000000
def qc4 (L:List Int) (f g:Int→Int) (v:Int):Int×Bool:=match L.filter (fun x=>f x == v) with
 | []=>(0,false)
 | x :: r=>if (r.all fun y=>g y == g x) = true then (g x,true) else (0,false)
theorem zn1 {L:List Int} {f:Int→Int} {v:Int} {i:Nat} (h:i < L.length):(L.take (i + 1)).filter (fun x=>f x == v) = (L.take i).filter (fun x=>f x == v) ++ if (f L[i] == v) = true then [L[i]] else []:=by
 rw [qY h,List.filter_append]
 congr 1
 split
 ·rename_i h2;rw [List.filter_cons_of_pos (p:=fun x=>f x == v) h2];rfl
 ·rename_i h2;rw [List.filter_cons_of_neg (p:=fun x=>f x == v) h2];rfl
def TcI (g:Int→Int) (M:List Int) (o:Int) (b:Bool):Prop:=(M = []∧o = 0∧b = false)∨∃ x r,M = x :: r∧(∀ y∈r,g y = g x)∧o = g x∧b = true
theorem TcI.fin {L:List Int} {f g:Int→Int} {v o:Int} {b:Bool} (h:TcI g (L.filter fun x=>f x == v) o b):qc4 L f g v = (o,b):=by
 unfold qc4
 rcases h with ⟨h1,h2,h3⟩ | ⟨x,r,h1,h2,h3,h4⟩
 ·rw [h1,h2,h3]
 ·rw [h1,h3,h4]
  dsimp only
  rw [if_pos (List.all_eq_true.2 fun y hy=>beq_iff_eq.2 (h2 y hy))]
theorem zB8 {L:List Int} {f g:Int→Int} {v:Int} {i:Nat} (h:i < L.length) {o:Int} (hI:TcI g ((L.take i).filter fun x=>f x == v) o true) (h1:(f L[i] == v) = true) (h2:g L[i]≠o):qc4 L f g v = (0,false):=by
 rcases hI with ⟨_,_,h3⟩ | ⟨x,r,h3,h4,h5,_⟩
 ·cases h3
 ·have hL:L.filter (fun x=>f x == v) = x :: (r ++ L[i] :: (L.drop (i + 1)).filter fun x=>f x == v):=by
   conv=>lhs;rw [← List.take_append_drop i L,List.filter_append,h3,qT9 h,List.filter_cons_of_pos (p:=fun x=>f x == v) h1]
   simp
  unfold qc4
  rw [hL]
  dsimp only
  rw [if_neg]
  intro k
  have:=List.all_eq_true.1 k L[i] (by simp)
  rw [beq_iff_eq,← h5] at this
  exact h2 this
theorem qs6 (l:CodL) (hl:lstE l = 0) (a v b:Int):Spc Tryz.prog yV [cdlT l,vI a,vI v,vI b] [] (.tup [vI (qc4 (atL l (zi l - 1)) (fun x=>upC l x a) (fun x=>upC l x b) v).1,vB (qc4 (atL l (zi l - 1)) (fun x=>upC l x a) (fun x=>upC l x b) v).2]) []:=by
 have hlv:=qF2 (l:=l)
 have hw:IntKind.i64.wrap (zi l - 1) = zi l - 1:=IntWalk.i64_in _ (by omega)
 have hLl:(atL l (zi l - 1)).length≤60:=by
  obtain ⟨_,d5,d6⟩:=zw hl
  unfold atL
  rw [if_neg (by rw [hl];simp),List.length_map]
  refine Nat.le_trans (List.length_filter_le _ _) ?_
  rw [List.length_range];exact d6
 refine qd ql1 mixm (by simp) fun e _ hst=>qg ?_
 unfold yD
 refine sW ?_
 refine C1.im (JS l) (by rfl) (by rfl) ?_
 simp only [tZ,↓un_u,simprocAttr,hw]
 refine C1.im (qs1 l (zi l - 1)) (by rfl) (by rfl) ?_
 generalize atL l (zi l - 1) = L at hLl ⊢
 refine sW ?_
 refine ⟨by kernel_rfl,?_⟩
 refine qu mixm (α:=Nat×Int×Bool) [10,11,21] (fun y=>y.1≤L.length∧TcI (fun x=>upC l x b) ((L.take y.1).filter fun x=>upC l x a == v) y.2.1 y.2.2) (fun y=>[(10,vI y.2.1),(11,vB y.2.2),(21,vI y.1)]) (fun y=>[(4096,.arr 2 [cdlT l] false)]) (fun y=>L.length - y.1) (0,0,false) ⟨by simp,.inl ⟨rfl,rfl,rfl⟩⟩ ?_ fun y hy=>?_
 ·exact .oA [(4096,some 4096)] []
 obtain ⟨i,o,t⟩:=y
 obtain ⟨y1,y2⟩:=hy
 dsimp only at y1 y2
 refine sD ?_
 refine ⟨fun h3=>?_,fun h3=>?_⟩
 ·have hi2:i < L.length:=by omega
  have hwi:=qh (i:=i) (by omega)
  have hsp:=zn1 (f:=fun x=>upC l x a) (v:=v) hi2
  have hbad:=fun e=>zB8 (f:=fun x=>upC l x a) (g:=fun x=>upC l x b) (v:=v) (o:=o) hi2 e
  have sU:=fun c=>YR l L[i] c
  simp only [tZ,↓un_u,simprocAttr,Int.toNat_natCast,qe hi2]
  refine ⟨by omega,?_⟩
  refine C1.im (sU a) (by rfl) (by rfl) ?_
  simp only [tZ,↓un_u,simprocAttr,bne_iff_ne,bne_eq_false_iff_eq,hwi]
  generalize L[i] = x at hsp hbad sU ⊢
  refine ⟨fun h4=>?_,fun h4=>?_⟩
  ·rw [if_neg (by rw [beq_iff_eq];exact h4),List.append_nil] at hsp
   refine ⟨(i + 1,o,t),⟨by dsimp only;omega,by dsimp only;rw [hsp];exact y2⟩,by dsimp only;omega,?_⟩
   exact .oA [(4096,some 4096)] []
  ·rw [if_pos (beq_iff_eq.2 h4)] at hsp
   refine C1.im (sU b) (by rfl) (by rfl) ?_
   simp only [tZ,↓un_u,simprocAttr,tD,bne_iff_ne,bne_eq_false_iff_eq,hwi]
   refine ⟨fun h5=>?_,fun h5=>?_⟩
   ·rw [h5.1] at y2
    rw [hbad y2 (beq_iff_eq.2 h4) h5.2]
    exact .oA [] []
   ·refine ⟨(i + 1,upC l x b,true),⟨by dsimp only;omega,?_⟩,by dsimp only;omega,?_⟩
    ·dsimp only
     rw [hsp]
     rcases y2 with ⟨k1,k2,k3⟩ | ⟨z,r,k1,k2,k3,k4⟩
     ·exact .inr ⟨x,[],by rw [k1];rfl,by simp,rfl,rfl⟩
     ·right
      have hx:upC l x b = o:=by
       rw [k4] at h5
       simpa using h5
      refine ⟨z,r ++ [x],by rw [k1];rfl,fun y hy=>?_,by rw [hx,k3],rfl⟩
      rcases List.mem_append.1 hy with hy | hy
      ·exact k2 y hy
      ·rw [List.mem_singleton.1 hy]
       dsimp only
       rw [hx,k3]
    ·exact .oA [(4096,some 4096)] []
 ·have hil:i = L.length:=by omega
  subst hil
  rw [List.take_length] at y2
  rw [TcI.fin y2]
  exact .oA [] []
theorem zU4 {s:Sch} (hE:schE s = 0) {k:Nat} (hk:k < s.cols.length) (h0:0 < k) (h2:(qj s k).kind = 2) (x:Int):(qc4 (qS s k) (fun y=>upC (qM s k) y (finI s k)) (fun y=>upC (qM s k) y (finI s k)) x).2 = kI s k x:=by
 have hok:=qZ hE
 obtain ⟨_,d2⟩:=hok.cdl hk h2
 have hself:∀ y∈qS s k,upC (qM s k) y (finI s k) = y:=fun y hy=>by
  have h3:=qf9 hE h0 hk h2 hy
  have h4:=Ki h2 d2 hy
  have hf:=qG9 hE h0 hk
  rw [qT,if_neg (by rw [Bool.not_eq_false,Yy];omega),Int.toNat_natCast,if_pos h2,if_neg (by rw [h4];simp)] at h3
  exact h3
 have hl:=qH0 hok hk h2 (v:=x)
 unfold qc4
 cases hf:(qS s k).filter fun y=>upC (qM s k) y (finI s k) == x with
 | nil=>
   dsimp only
   symm
   rw [Bool.eq_false_iff]
   intro hh
   have hm:=hl.1 hh
   have:=List.filter_eq_nil_iff.1 hf x hm
   rw [hself x hm] at this
   simp at this
 | cons y r=>
   dsimp only
   have hy:y∈(qS s k).filter fun y=>upC (qM s k) y (finI s k) == x:=by rw [hf];exact List.mem_cons_self
   obtain ⟨hy1,hy2⟩:=List.mem_filter.1 hy
   rw [hself y hy1,beq_iff_eq] at hy2
   subst hy2
   rw [if_pos,hl.2 hy1]
   rw [List.all_eq_true]
   intro z hz
   have hz2:z∈(qS s k).filter fun y'=>upC (qM s k) y' (finI s k) == y:=by rw [hf];exact List.mem_cons_of_mem _ hz
   obtain ⟨z1,z2⟩:=List.mem_filter.1 hz2
   rw [hself z z1,beq_iff_eq] at z2
   rw [z2];exact beq_self_eq_true _
theorem qx6 (s:Sch) (hE:schE s = 0) (k:Nat) (hk:k < s.cols.length) (h0:0 < k) (h2:(qj s k).kind = 2) (a v b:Int) (ha:0≤a∧a≤finI s k) (hb:0≤b∧b≤finI s k):Spc Tryz.prog ZE [schT s,vI k,vI a,vI v,vI b] []
 (let r:=qc4 (qS s k) (fun x=>upC (qM s k) x a) (fun x=>upC (qM s k) x b) v;.tup [vI (if r.2 = true then r.1 else 0),vB r.2]) []:=by
 have hok:=qZ hE
 have hat:qj s k = s.cols[k]:=by rw [qj,qk hk]
 obtain ⟨d1,d2⟩:=hok.cdl hk h2
 have hls:qS s k = atL (qM s k) (zi (qM s k) - 1):=rfl
 have hcd:qM s k = s.lists.getD (qj s k).list.toNat default:=rfl
 have hkk:=(zf (hok.cs k hk)).2.2.2.1 h2
 have sT:=Jd s hE k
 have e1:decide (a < 0) = false:=decide_eq_false (by omega)
 have e2:decide (a > finI s k) = false:=decide_eq_false (by omega)
 have e3:decide (b < 0) = false:=decide_eq_false (by omega)
 have e4:decide (b > finI s k) = false:=decide_eq_false (by omega)
 rw [hls]
 have sC:=qs6 (qM s k) d2 a v b
 generalize qc4 (atL (qM s k) (zi (qM s k) - 1)) (fun x=>upC (qM s k) x a) (fun x=>upC (qM s k) x b) v = r at sC ⊢
 rw [hat] at d1 h2 hcd hkk
 rw [hcd,qk d1] at sC
 dsimp only
 refine qd qv8 mixm (by simp) fun e _ hst=>qg ?_
 unfold QU
 refine sW ?_
 refine C1.im sT (by rfl) (by rfl) ?_
 simp only [tZ,↓un_u,simprocAttr,e1,e2,e3,e4,Int.toNat_natCast,qe hk,beq_iff_eq,beq_eq_false_iff_ne]
 generalize s.cols[k] = x at d1 h2 hkk sC ⊢
 refine ⟨by omega,fun _=>?_,fun h=>absurd h2 h⟩
 simp only [tZ,↓un_u,simprocAttr,qe d1]
 refine ⟨by omega,?_⟩
 refine C1.im sC (by rfl) (by rfl) ?_
 simp only [tZ,↓un_u,simprocAttr,Bool.not_eq_true',Bool.not_eq_false']
 refine ⟨fun h=>?_,fun h=>?_⟩
 ·rw [h,if_neg (by simp)]
  exact .oA [] []
 ·rw [h,if_pos rfl]
  exact .oA [] []
theorem Ku (s:Sch) (hE:schE s = 0) (k:Nat) (hk:k < s.cols.length) (h0:0 < k) (h2:(qj s k).kind = 2) (x:Int):Spc Tryz.prog jw [vI x,.ip (schT s).cells,.ip [vI k],.ip [vI (finI s k)]] [] (vB (kI s k x)) []:=by
 have hf:=qG9 hE h0 hk
 have sT:=qx6 s hE k hk h0 h2 (finI s k) x (finI s k) (by omega) (by omega)
 dsimp only at sT
 rw [zU4 hE hk h0 h2] at sT
 refine qd JB mixm (by simp) fun e _ hst=>qg ?_
 unfold jm
 refine sW ?_
 refine C1.im sT (by rfl) (by rfl) ?_
 refine sW ?_
 exact .oA [] []
theorem WK (s:Sch) (q:Qst) (hq:QstOk s q) (k:Nat) (hk:k < s.cols.length) (h0:0 < k) (h2:(qj s k).kind = 2) (lev a b:Int) (hF:FirstV s q k lev a b):Spc Tryz.prog ke [schT s,qstT q,vI k,vI lev] [] (.tup [vI a,vI b]) []:=by
 have hE:=hq.sch
 have hok:=qZ hE
 have hs:=hok.sm
 have hat:qj s k = s.cols[k]:=by rw [qj,qk hk]
 obtain ⟨d1,d2⟩:=hok.cdl hk h2
 obtain ⟨_,d5,d6⟩:=zw d2
 have hcd:qM s k = s.lists.getD (qj s k).list.toNat default:=rfl
 have hkk:=(zf (hok.cs k hk)).2.2.2.1 h2
 have sF:=yI s hs k
 have sL:=Ku s hE k hk h0 h2
 have sC:=fun v=>YB s hs k lev v
 have sT:=fun x y=>qx4 s hok q hq.nd hq.nt (zx6 hq) k x y
 have hcode:∀ v,kI s k v = true→∃ c:Nat,v = c∧c < (qM s k).codes.length:=fun v hv=>by
  obtain ⟨c,e,c1,_⟩:=(Zx hok hk h2).1 ((qH0 hok hk h2).1 hv)
  exact ⟨c,e,c1⟩
 rw [hat] at d1 hcd hkk
 rw [hcd,qk d1] at hcode d6
 obtain ⟨A,rfl,hA⟩:=hcode a hF.hx
 obtain ⟨B,rfl,hB⟩:=hcode b hF.hy
 have hAB:=hF.lt
 refine qd KM mixm (by simp) fun e _ hst=>qg ?_
 unfold jO
 simp only [tZ,↓un_u,simprocAttr,Int.toNat_natCast,qe hk]
 generalize s.cols[k] = x at d1 hkk hcode d6 hA hB ⊢
 simp only [tZ,↓un_u,simprocAttr,qe d1]
 refine ⟨by omega,by omega,by kernel_rfl,?_⟩
 generalize s.lists[x.list.toNat] = l at hcode d6 hA hB ⊢
 refine C1.im sF (by rfl) (by rfl) ?_
 refine sW ?_
 refine qu mixm (α:=Nat) [32] (fun i=>i≤A) (fun i=>[(32,vI i)]) (fun i=>[(4096,.arr 2 [schT s] false),(4100,.arr 17 [qstT q] false),(4104,.arr 1 [vI k] false),(12300,.arr 1 [vI (finI s k)] false)]) (fun i=>A - i) 0 (by omega) ?_ fun i hi=>?_
 ·exact .oA [(4096,some 4096),(4100,some 4100),(4104,some 4104),(12300,some 12300)] []
 have hwi:=qh (i:=i) (by omega)
 simp only [tZ,↓un_u,simprocAttr,tD,hwi]
 refine ⟨fun h3=>?_,fun h3=>by omega⟩
 refine qu mixm (α:=Nat) [14] (fun j=>i + 1≤j∧j≤l.codes.length∧(i = A→j≤B)) (fun j=>[(14,vI j)]) (fun j=>[(4096,.arr 2 [schT s] false),(4100,.arr 17 [qstT q] false),(4104,.arr 1 [vI k] false),(12300,.arr 1 [vI (finI s k)] false)]) (fun j=>l.codes.length - j) (i + 1) ⟨by omega,by omega,by omega⟩ ?_ fun j hj=>?_
 ·exact .oA [(4096,some 4096),(4100,some 4100),(4104,some 4104),(12300,some 12300)] []
 obtain ⟨j1,j2,j3⟩:=hj
 have hwj:=qh (i:=j) (by omega)
 refine sW ?_
 refine C2.lend [4096,4104,12300] (fun _=>sL i) (fun _=>?_) (by rfl) (by rfl) ?_
 ·all_goals (try simp only [tL,simprocAttr,List.map_append,List.map_cons,List.map_nil,List.cons_append,List.nil_append])
  all_goals (try (repeat' (first | exact qR | (apply zd;intro _;exact ⟨rfl,rfl⟩) | (apply qz;intro _;exact ⟨rfl,rfl⟩) | with_reducible apply qG | with_reducible refine qE ⟨rfl,rfl⟩ ?_ | exact qO | with_reducible apply qA | with_reducible refine qJ ⟨rfl,rfl,?_⟩ ?_ | with_reducible apply And.intro | exact qD rfl | exact qD (by assumption) | (refine ⟨⟨?_,rfl,?_,rfl,?_⟩,trivial⟩ <;> first | (simp;done) | (apply qz;intro _;exact ⟨rfl,rfl⟩)) | trivial | rfl | (rw [qh (by omega)]) | omega)))
  all_goals (simp only [ltP];exact ⟨rfl,by decide,rfl,qE ⟨rfl,rfl⟩ qO⟩)
 refine sD ?_
 refine ⟨fun h5=>?_,fun h5=>?_⟩
 ·refine C1.lend [4096,4104,12300] (sL j) ?_ (by rfl) (by rfl) ?_
  ·all_goals (try simp only [tL,simprocAttr,List.map_append,List.map_cons,List.map_nil,List.cons_append,List.nil_append])
   all_goals (try (repeat' (first | exact qR | (apply zd;intro _;exact ⟨rfl,rfl⟩) | (apply qz;intro _;exact ⟨rfl,rfl⟩) | with_reducible apply qG | with_reducible refine qE ⟨rfl,rfl⟩ ?_ | exact qO | with_reducible apply qA | with_reducible refine qJ ⟨rfl,rfl,?_⟩ ?_ | with_reducible apply And.intro | exact qD rfl | exact qD (by assumption) | (refine ⟨⟨?_,rfl,?_,rfl,?_⟩,trivial⟩ <;> first | (simp;done) | (apply qz;intro _;exact ⟨rfl,rfl⟩)) | trivial | rfl | (rw [qh (by omega)]) | omega)))
   all_goals (simp only [ltP];exact ⟨rfl,by decide,rfl,qE ⟨rfl,rfl⟩ qO⟩)
  refine sW ?_
  refine C2.im (fun _=>sC i) (fun _=>rfl) (by rfl) ?_
  refine sW ?_
  refine C2.im (fun _=>sC j) (fun _=>rfl) (by rfl) ?_
  refine sW ?_
  refine C2.im (fun _=>sT i j) (fun _=>rfl) (by rfl) ?_
  simp only [tZ,↓un_u,simprocAttr,hwj,tD,beq_iff_eq,beq_eq_false_iff_ne]
  have hq2:∀ h1:kI s k i = true,(kI s k j = true∧qT s k lev i = qT s k lev j)∧zT4 s q k i j = true→A = i∧B = j:=fun h1 h2=>by
   have:=hF.least i j h1 h2.1.1 (by omega) ⟨h2.1.2,h2.2⟩
   have hiA:A = i:=by omega
   have:=j3 hiA.symm
   omega
  refine ⟨by kernel_rfl,fun h6=>?_,fun h6=>?_⟩
  ·obtain ⟨e1,e2⟩:=hq2 h5.2 h6
   rw [e1,e2]
   exact .oA [] []
  ·refine ⟨j + 1,⟨by omega,by omega,fun e=>?_⟩,by omega,?_⟩
   ·have h7:=j3 e
    refine Classical.byContradiction fun hn=>?_
    have hjB:j = B:=by omega
    subst hjB
    subst e
    have:=hF.qb
    have hy:=hF.hy
    have h8:¬ ((kI s k j = true∧qT s k lev i = qT s k lev j)∧zT4 s q k i j = true):=fun h=>by
     rcases h6 with h6 | h6
     ·rcases h6 with h6 | h6
      ·rw [h6] at hy;cases hy
      ·exact h6 h.1.2
     ·rw [h6] at h;cases h.2
    exact h8 ⟨⟨hy,this.1⟩,this.2⟩
   ·exact .oA [(4096,some 4096),(4100,some 4100),(4104,some 4104),(12300,some 12300)] []
 ·rw [hwi]
  have hlt:i + 1≤A:=by
   refine Classical.byContradiction fun hn=>?_
   have hiA:i = A:=by omega
   have h7:=j3 hiA
   have hx:=hF.hx
   rw [hiA] at h5
   rcases h5 with h5 | h5
   ·omega
   ·rw [h5] at hx;cases hx
  refine ⟨i + 1,hlt,by omega,?_⟩
  exact .oA [(4096,some 4096),(4100,some 4100),(4104,some 4104),(12300,some 12300)] []
theorem qb5 (p:Pk) (k:Int):Spc Tryz.prog jo [pkT p,.ip [vI k]] [] (vB (p.col == k)) []:=by
 refine qd Yj mixm (by simp) fun e _ hst=>qg ?_
 unfold kB
 refine sW ?_
 exact .oA [] []
theorem YG {f:Nat→Int} {n:Nat} {p:Pk} (h:p∈canF f n):0 < p.lev∧p.lev = f p.col.toNat∧0≤p.col∧p.col < n:=by
 obtain ⟨k,k1,k2,rfl⟩:=yJ.1 h
 exact ⟨k2,rfl,by dsimp only;omega,by dsimp only;omega⟩
theorem zU5 {s:Sch} {q:Qst} (h:qstE s q = 0) {k:Nat} (hk:k < s.cols.length) {lev:Int} (hl:0 < lev):(wW s q).any (fun p=>eqPk p ⟨k,lev⟩) = true↔mxl (wW s q) k = lev:=by
 rw [zi3 h hk,Ks h,List.any_eq_true]
 constructor
 ·rintro ⟨p,hp,e⟩
  rw [qm2] at e
  subst e
  have:=(YG hp).2.1
  rw [Int.toNat_natCast] at this
  exact this.symm
 ·intro e
  exact ⟨⟨k,lev⟩,yJ.2 ⟨k,hk,by omega,by rw [e]⟩,qm2.2 rfl⟩
end Go.Proofs
namespace Go.Proofs
open Go Go.TL
set_option maxRecDepth 4000
set_option maxHeartbeats 8000000
theorem qg6 (l:List Pk) (p:Pk) (hl:l.length < 4611686018427387904):Spc Tryz.prog wE [vPs l,pkT p] [] (vI (idxI (fun y=>eqPk p y) l)) []:=by
 refine qd qa0 mixm (by simp) fun e _ hst=>qg ?_
 unfold wj
 refine sW ?_
 refine qu mixm (α:=Nat) [8] (fun i=>i≤l.length∧((l.take i).any (fun y=>eqPk p y) = false)) (fun i=>[(8,vI i)]) (fun i=>[(4096,.arr 2 [pkT p] false)]) (fun i=>l.length - i) 0 ⟨by omega,?_⟩ ?_ fun i hi=>?_
 ·rfl
 ·exact .oA [(4096,some 4096)] []
 simp only [tZ,↓un_u,simprocAttr,decide_eq_true_eq,decide_eq_false_iff_not]
 refine ⟨fun h=>?_,fun h=>?_⟩
 ·have hi2:i < l.length:=by omega
  have hwi:=qh (i:=i) (by omega)
  simp only [tZ,↓un_u,simprocAttr,Int.toNat_natCast,qe hi2,hwi]
  refine ⟨by omega,?_⟩
  repeat (first | refine ⟨by omega,?_⟩ | refine ⟨by kernel_rfl,?_⟩)
  have e:(p.col == l[i].col && p.lev == l[i].lev) = eqPk p l[i]:=rfl
  rw [e]
  refine ⟨fun h3=>?_,fun h3=>⟨i + 1,⟨by omega,zQ hi2 hi.2 h3⟩,by omega,?_⟩⟩
  ·rw [idxI,if_pos (qi2 hi2 h3),yQ hi2 hi.2 h3]
   exact .oA [] []
  ·exact .oA [(4096,some 4096)] []
 ·have h2:i = l.length:=by omega
  have h3:=hi.2
  rw [h2,List.take_length] at h3
  rw [idxI,if_neg (by rw [h3];simp)]
  exact .oA [] []
theorem WL (l:List Pk) (p:Pk) (hl:l.length < 4611686018427387904):Spc Tryz.prog ka [vPs l,pkT p] [] (vB (l.any fun y=>eqPk p y)) []:=by
 refine qd KK mixm (by simp) fun e _ hst=>qg ?_
 unfold jN
 refine sW ?_
 refine C1.im (qg6 l p hl) (by rfl) (by rfl) ?_
 refine sW ?_
 rw [show decide (idxI (fun y=>eqPk p y) l≥0) = l.any (fun y=>eqPk p y) from qd1 _ l]
 exact .oA [] []
theorem zU6 (x y:Pk):eqPk x y = eqPk y x:=by
 rw [Bool.eq_iff_iff,qm2,qm2];exact ⟨fun h=>h.symm,fun h=>h.symm⟩
theorem zn2 {α:Type} {p:α→Bool} {l:List α} (h:l.any p = true):∃ (i:Nat) (hi:i < l.length),idxI p l = i∧p l[i] = true:=by
 obtain ⟨x,hx,hp⟩:=List.any_eq_true.1 h
 have hlt:=List.findIdx_lt_length_of_exists ⟨x,hx,hp⟩
 exact ⟨l.findIdx p,hlt,by rw [idxI,if_pos h],List.findIdx_getElem⟩
abbrev witT (w:Int×Int×Int×Bool):T:=.tup [vI w.1,vI w.2.1,vI w.2.2.1,vB w.2.2.2]
theorem qo0 (s:Sch) (hs:Ze s) (d:Dcl) (col:Int) (w:Int×Int×Int×Bool) (hW:WitR s d col w)
 (hM:∀ (q:Qst) (k:Nat) (lev a b:Int),QstOk s q→0 < k→k < s.cols.length→(qj s k).kind≠2→0≤lev→lev≤finI s k→zU2 s q k lev a b→Spc Tryz.prog wu [schT s,qstT q,vI k,vI lev] [] (.tup [vI a,vI b]) []):Spc Tryz.prog yc [schT s,dclT d,vI col] [] (witT w) []:=by
 have sP:=kK s hs d
 have hpl:=qm5 s d
 have sI:=yK (fun p=>p.col == col) jo [.ip [vI col]] rfl (zU s d) (fun p _=>qb5 p col) (by omega)
 have hge:=qd1 (fun p:Pk=>p.col == col) (zU s d)
 have hany:((zU s d).any fun p=>p.col == col) = true→dclE s d = 0→0 < mxl (zU s d) col:=fun h hd=>by
  obtain ⟨p,hp,e⟩:=List.any_eq_true.1 h
  rw [beq_iff_eq] at e
  have h1:=zi1 hp
  rw [kU hd] at hp
  have:=(YG hp).1
  rw [e] at h1;omega
 refine qd qd6 mixm (by simp) fun e _ hst=>qg ?_
 unfold wI
 refine sW ?_
 refine C1.im sP (by rfl) (by rfl) ?_
 refine sW ?_
 refine C1.lend [4104] sI ?_ (by rfl) (by rfl) ?_
 ·all_goals (try simp only [tL,simprocAttr,List.map_append,List.map_cons,List.map_nil,List.cons_append,List.nil_append])
  all_goals (try (repeat' (first | exact qR | (apply zd;intro _;exact ⟨rfl,rfl⟩) | (apply qz;intro _;exact ⟨rfl,rfl⟩) | with_reducible apply qG | with_reducible refine qE ⟨rfl,rfl⟩ ?_ | exact qO | with_reducible apply qA | with_reducible refine qJ ⟨rfl,rfl,?_⟩ ?_ | with_reducible apply And.intro | exact qD rfl | exact qD (by assumption) | (refine ⟨⟨?_,rfl,?_,rfl,?_⟩,trivial⟩ <;> first | (simp;done) | (apply qz;intro _;exact ⟨rfl,rfl⟩)) | trivial | rfl | (rw [qh (by omega)]) | omega)))
  all_goals (simp only [ltP];exact ⟨rfl,by decide,rfl,qE ⟨rfl,rfl⟩ qO⟩)
 simp only [tZ,↓un_u,simprocAttr,tD,bne_iff_ne,bne_eq_false_iff_eq]
 refine ⟨fun h=>?_,fun h=>?_⟩
 ·have hw:w = (0,0,0,false):=by
   rcases hW with ⟨_,hw⟩ | ⟨hd,k,n,a,b,e1,e2,e3,e4,_,_,_,_,_⟩
   ·exact hw
   ·exfalso
    rcases h with h | h
    ·exact h hd
    ·obtain ⟨p,hp,e⟩:=ju0 e4
     have:((zU s d).any fun p=>p.col == col) = true:=List.any_eq_true.2 ⟨p,hp,by rw [beq_iff_eq,e1];exact e⟩
     rw [this,decide_eq_true_eq] at hge
     omega
  rw [hw]
  exact .oA [] []
 obtain ⟨hd,hi0⟩:=h
 have hA:((zU s d).any fun p=>p.col == col) = true:=by rw [← hge,decide_eq_true_eq];omega
 rcases hW with ⟨hno,_⟩ | ⟨_,k,n,a,b,rfl,hk0,hk,hm,hn,hnq,hnm,hP,rfl⟩
 ·exact absurd ⟨hd,hany hA hd⟩ hno
 obtain ⟨i,hi,hidx,hic⟩:=zn2 hA
 rw [hidx]
 rw [beq_iff_eq] at hic
 obtain ⟨_,_,_,_,_,hq1,hq2,hqs⟩:=Yx hd
 have hkey:∀ p∈zU s d,p.col = k→p.lev = mxl (zU s d) k:=fun p hp e=>by
  rw [zU3 hd hk]
  have h2:=hp
  rw [kU hd] at h2
  have:=(YG h2).2.1
  rw [e,Int.toNat_natCast] at this
  exact this
 have hlev:=hkey _ (List.getElem_mem hi) hic
 have hfin:mxl (zU s d) k≤finI s k:=by
  rw [← hnq,zi3 (hqs n hn) hk]
  have hqk:=qg0 (hqs n hn)
  exact zx7 (qG9 hqk.sch hk0 hk) fun p hp e=>by rw [← e];exact zT9 hqk p hp
 have hat:qj s k = s.cols[k]:=by rw [qj,qk hk]
 have hE:=(Yx hd).1
 have hf59:=qf7 (c:=k) hE
 have hgi:((zU s d).map pkT).getD i .junk = pkT (zU s d)[i]:=qe hi
 have hpi:(zU s d)[i] = ⟨k,mxl (zU s d) k⟩:=by
  rw [← hlev]
  cases h:(zU s d)[i] with
  | mk c v=>rw [h] at hic;dsimp only at hic;rw [hic]
 rw [hpi] at hgi
 have hw1:IntKind.i64.wrap (mxl (zU s d) k - 1) = mxl (zU s d) k - 1:=IntWalk.i64_in _ (by omega)
 generalize hlp:mxl (zU s d) k = lev at hm hnq hnm hP hlev hfin hgi hw1
 generalize hLL:zU s d = L at hi hgi hlp hpl
 refine qu mixm (α:=Nat) [37] (fun j=>j≤n) (fun j=>[(37,vI j)]) (fun j=>[(4096,.arr 2 [schT s] false),(4104,.arr 1 [vI k] false)]) (fun j=>n - j) 0 (by omega) ?_ fun j hj=>?_
 ·exact .oA [(4096,some 4096),(4104,some 4104)] []
 refine sD ?_
 refine ⟨fun h3=>?_,fun h3=>by omega⟩
 have hj2:j < d.qs.length:=by omega
 have hwj:=qh (i:=j) (by omega)
 have hqj:qAt d.qs j = d.qs[j]:=by rw [qAt,qk hj2]
 have hqe:=hqs j hj2
 rw [hqj] at hqe
 have sN:=Kt s hs d.qs[j]
 have hnl:=qG1 s d.qs[j]
 have sC:=WL (wW s d.qs[j]) ⟨k,lev⟩ (by omega)
 have hhas:=zU5 hqe hk hm
 rw [show (fun p=>eqPk p (⟨k,lev⟩:Pk)) = fun p=>eqPk ⟨k,lev⟩ p from funext fun p=>zU6 _ _] at hhas
 simp only [tZ,↓un_u,simprocAttr,Int.toNat_natCast,qe hj2]
 refine ⟨by omega,?_⟩
 refine C1.im sN (by rfl) (by rfl) ?_
 simp only [tZ,↓un_u,simprocAttr,Int.toNat_natCast,hgi]
 refine ⟨by omega,?_⟩
 refine C1.im sC (by rfl) (by rfl) ?_
 simp only [tZ,↓un_u,simprocAttr,Bool.not_eq_true',Bool.not_eq_false',hwj]
 refine ⟨by kernel_rfl,fun h4=>?_,fun h4=>?_⟩
 ·have hne:j≠n:=fun e=>by
   subst e
   rw [hqj] at hnq
   rw [hhas.2 hnq] at h4
   cases h4
  refine ⟨j + 1,by omega,by omega,?_⟩
  exact .oA [(4096,some 4096),(4104,some 4104)] []
 have hjn:j = n:=by
  refine Classical.byContradiction fun hne=>hnm j (by omega) ?_
  rw [hqj]
  exact hhas.1 h4
 subst hjn
 rw [hqj] at hP
 have hqk:=qg0 hqe
 unfold zU2 at hP
 have hMM:=hM d.qs[j] k (lev - 1) a b hqk hk0 hk
 have hCC:=WK s d.qs[j] hqk k hk hk0
 unfold zU2 at hMM
 rw [hat] at hP hMM hCC
 simp only [tZ,↓un_u,simprocAttr,Int.toNat_natCast,qe hk,beq_iff_eq,beq_eq_false_iff_ne]
 refine ⟨by omega,fun h5=>?_,fun h5=>?_⟩
 ·rw [if_pos h5] at hP
  simp only [tZ,↓un_u,simprocAttr,hw1,hgi]
  refine ⟨by omega,?_⟩
  refine C1.im (hCC h5 (lev - 1) a b hP) (by rfl) (by rfl) ?_
  refine sW ?_
  repeat (first | refine ⟨by omega,?_⟩ | refine ⟨by kernel_rfl,?_⟩)
  exact .oA [] []
 ·have hMM:=hMM h5 (by omega) (by omega) hP
  simp only [tZ,↓un_u,simprocAttr,hw1,hgi]
  refine ⟨by omega,?_⟩
  refine C1.im hMM (by rfl) (by rfl) ?_
  refine sW ?_
  repeat (first | refine ⟨by omega,?_⟩ | refine ⟨by kernel_rfl,?_⟩)
  exact .oA [] []
end Go.Proofs
namespace Go.Proofs
open Go Go.TL
set_option maxRecDepth 4000
set_option maxHeartbeats 8000000
def jd0:CodL:=⟨⟨#[108]⟩,[⟨⟨#[97]⟩,-1⟩,⟨⟨#[98]⟩,0⟩,⟨⟨#[99]⟩,0⟩]⟩
def qb6:Sch:=⟨[jd0],[⟨⟨#[119,104,111]⟩,1,0,0,0,[],false⟩,⟨⟨#[115,101,120]⟩,2,0,0,0,[],false⟩]⟩
def jd1:Qst:=⟨⟨#[113]⟩,1,.mk 1 0 0 0 0 [],[⟨1,1⟩],-1,[],cnd0⟩
def qH1:Dcl:=⟨⟨#[112]⟩,⟨#[115]⟩,.mk 1 0 0 0 0 [],⟨1,1,0⟩,[jd1]⟩
theorem qW0:Ze qb6:=⟨by decide,by decide,by decide⟩
theorem ju1:WitR qb6 qH1 1 (1,2,0,true):=by
 have hE:schE qb6 = 0:=by kernel_rfl
 have hok:=qZ hE
 have hlv:qS qb6 1 = [1,2]:=by kernel_rfl
 have h2:(qj qb6 1).kind = 2:=rfl
 have hh:∀ v,kI qb6 1 v = true→v = 1∨v = 2:=fun v hv=>by
  have:=(qH0 hok (i:=1) (by decide) h2).1 hv
  rw [hlv] at this
  simpa using this
 have hm:mxl (zU qb6 qH1) (1:Nat) = 1:=by kernel_rfl
 refine .inr ⟨by kernel_rfl,1,0,1,2,rfl,by decide,by decide,by rw [hm];decide,by decide,?_,fun m h=>by omega,?_,rfl⟩
 ·rw [hm];kernel_rfl
 ·rw [hm]
  unfold zU2
  rw [if_pos h2]
  refine ⟨by kernel_rfl,by kernel_rfl,by decide,⟨by kernel_rfl,by kernel_rfl⟩,fun x y hx hy hxy _=>?_⟩
  rcases hh x hx with e | e <;> rcases hh y hy with e2 | e2 <;> omega
theorem qW1:Spc Tryz.prog KB [] [] (vB true) []:=by
 have hP:=kK qb6 qW0 qH1
 rw [show zU qb6 qH1 = [⟨1,1⟩] by kernel_rfl,show dclE qb6 qH1 = 0 by kernel_rfl] at hP
 have hW:=qo0 qb6 qW0 qH1 1 _ ju1 fun q k lev a b _ h1 h2 h3 _ _ _=>by
  have:k = 1:=by
   have:k < 2:=h2
   omega
  subst this
  exact absurd rfl h3
 have hS:=Kn [⟨1,1⟩] [⟨1,1⟩] (by decide)
 rw [show qu1 [⟨1,1⟩] [⟨1,1⟩] = true by kernel_rfl] at hS
 have hC:=qx5 qb6 qW0 qH1 [] (by decide)
 rw [show zf9 qb6 qH1 [] = 23 by kernel_rfl] at hC
 have hI:=Qr [⟨1,1⟩] [⟨1,1⟩] (by decide) (by decide)
 rw [show covB [⟨1,1⟩] [⟨1,1⟩] = true by kernel_rfl] at hI
 refine qd qI0 mixm (by simp) fun e _ hst=>qg ?_
 unfold Jt
 refine sW ?_
 refine C1.shutD [8204,8212,8224,16400,16408] hP ?_ (by rfl) rfl ?_
 ·simp [ptw,ltAD,ltD,TL.get,T.cells,imT,imL,qb6,jd1,jd0,qH1]
  all_goals (try (repeat' apply And.intro))
  all_goals (try rfl)
 refine sW ?_
 refine C1.lendD [8204,8212,8224,16400,16408] hW ?_ (by rfl) (by rfl) ?_
 ·simp [ptw,ltAD,ltD,TL.get,T.cells,imT,imL,qb6,jd1,jd0,qH1]
  all_goals (try (repeat' apply And.intro))
  all_goals (try rfl)
 refine sW ?_
 refine C2.lendD [28692] (fun _=>hS) (fun _=>?_) (by rfl) (by rfl) ?_
 ·simp [ptw,ltAD,ltD,TL.get,T.cells,imT,imL]
  all_goals (try (repeat' apply And.intro))
  all_goals (try rfl)
 refine sW ?_
 refine C2.lendD [8204,8212,8224,16400,16408] (fun _=>hC) (fun _=>?_) (by rfl) (by rfl) ?_
 ·simp [ptw,ltAD,ltD,TL.get,T.cells,imT,imL,qb6,jd1,jd0,qH1]
  all_goals (try (repeat' apply And.intro))
  all_goals (try rfl)
 refine sW ?_
 refine C2.im (fun _=>hI) (fun _=>rfl) (by rfl) ?_
 refine sW ?_
 exact .oA [] []
end Go.Proofs
