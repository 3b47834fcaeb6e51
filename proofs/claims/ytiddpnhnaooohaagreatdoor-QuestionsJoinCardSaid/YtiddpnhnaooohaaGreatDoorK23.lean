/- A part of the proof: trees of Go values, short forms, contracts. -/
import Derived.WalkKit
import Derived.Still
import Derived.MapKept
import GoSem.Builtin.Cap
import Derived.Laws.Externs
import GoSem.Extern.SlicesOverlaps
import Derived.Carry
import Derived.ProofKit
import Derived.OpenShut
import Derived.HandedShaped
import Derived.Lay
import Derived.LaidLaws
import Derived.MakeChecks
import Derived.SevenTiedAt
import Derived.Test.YtiddpnhnaooohaaGreatDoorChecked
import Derived.Test.YtiddpnhnaooohaaGreatDoorK22
set_option linter.unusedSimpArgs false
set_option linter.unusedVariables false
namespace Go.Proofs
open Go Go.TL
set_option maxRecDepth 4000
set_option maxHeartbeats 8000000
theorem DrS.meas3 {s:Sch} (h:DrS s):(Ju s 3).length≤3:=by
 obtain ⟨ms,hc,h1,h3⟩:=h.cs
 have key:∀ n,(KA s 3 n).length≤n - 2:=by
  have e0:(qh s 0).kind = 1:=by rcases hc with ⟨hc,_⟩ | ⟨hc,_⟩ <;> (rw [qh,hc];rfl)
  have e1:(qh s 1).kind = 2:=by rcases hc with ⟨hc,_⟩ | ⟨hc,_⟩ <;> (rw [qh,hc];rfl)
  intro n
  induction n with
  | zero=>simp [KA]
  | succ n ih=>
    rw [jH,List.length_append]
    by_cases k0:n = 0
    ·subst k0;rw [e0,if_neg (by decide),List.length_nil];omega
    ·by_cases k1:n = 1
     ·subst k1;rw [e1,if_neg (by decide),List.length_nil];omega
     ·split <;> simp <;> omega
 rcases hc with ⟨hc,hm⟩ | ⟨hc,hm⟩
 ·have:=key s.cols.length
  have hl:s.cols.length = ms.length + 2:=by rw [hc];rfl
  unfold Ju;omega
 ·have e2:(qh s 2).kind = 2:=by rw [qh,hc];rfl
  have k2:∀ n,3≤n→(KA s 3 n).length≤n - 3:=by
   intro n hn
   induction n with
   | zero=>omega
   | succ n ih=>
     by_cases k:n = 2
     ·subst k
      rw [jH,e2,if_neg (by decide),List.append_nil]
      have:=key 2;omega
     ·rw [jH,List.length_append]
      have:=ih (by omega)
      split <;> simp <;> omega
  have hl:s.cols.length = ms.length + 3:=by rw [hc];rfl
  have:=k2 s.cols.length (by omega)
  unfold Ju;omega
theorem zW2 {s:Sch} {m:Int} {ts:List Int} (h1:1≤ts.length) (h2:ts.length≤3) (h3:∀ v∈ts,isB s v 3 = true∧v≠m) (h4:ts.Nodup):yg s m ts = 0:=by
 rw [yg,if_neg (by omega)]
 refine qh8 fun i hi=>?_
 have hpi:ts.getD i 0 = ts[i]:=qk hi
 obtain ⟨a,b⟩:=h3 _ (List.getElem_mem hi)
 rw [zb2,hpi,if_neg (by rw [a];simp),if_neg]
 rintro (k | k)
 ·exact b k
 ·obtain ⟨j,hj,e⟩:=List.mem_take_iff_getElem.1 (List.contains_iff_mem.1 k)
  exact List.pairwise_iff_getElem.1 h4 j i (by omega) hi (by omega) e
theorem qj1 (s:Sch) (hd:DrS s) (m:Int) (l:List UInt8) (a:Nat) (hl:l.length≤400) (ha:a≤l.length) :
 ∃ r:List Int×Nat,((r.1.length≤3∧(0 < r.1.length→yg s m r.1 = 0))∧r.2≤l.length)∧Spc Tryz.prog wG [.ptr 0 1 0 0,schT s,vI m] [(0,oC l a)] (vIs r.1) [(0,oC l r.2)]:=by
 have hE:=hd.ok
 have hnc:=(za hE).nc
 have hc:=yR s 3 (by omega)
 have hm:=fun v=>(ZB (s:=s) (kind:=3) (v:=v)).1
 have hnd:=qB4 s 3
 have hc3:=hd.meas3
 generalize Ju s 3 = L at hc hm hnd hc3
 refine jT YP mixm (fun r:List Int×Nat=>vIs r.1) (fun r=>[(0,oC l r.2)]) (by simp) ?_
 unfold wq
 refine sW ?_
 refine XE.mp (fun _ _=>C1.im hc (by rfl) (by rfl)) ?_
 refine sW ?_
 refine XE.loopF mixm [7,14] (fun y:Nat×List Int×Nat=>y.1≤L.length∧y.2.1.Sublist (L.take y.1)∧(∀ v∈y.2.1,v≠m)∧y.2.2≤l.length) (fun y=>[(7,.asl 1 y.2.1.length),(14,vI y.1)]) (fun y=>[(0,oC l y.2.2),(4096,.arr 2 [schT s] false),(1,.arr 1 (y.2.1.map vI) false)]) (fun y=>L.length - y.1) (0,[],a) ⟨by simp,by simp,by simp,ha⟩ (fun e ⟨_,hst⟩=>?_) fun T' y hy ih=>?_
 ·exact .oA [(0,some 0),(4096,some 4096),(1,none)] []
 obtain ⟨i,ts,a1⟩:=y
 obtain ⟨y1,y2,y3,y4⟩:=hy
 dsimp only at y1 y2 y3 y4
 have hsl:=y2.length_le
 rw [List.length_take] at hsl
 simp only [tZ,↓un_u,simprocAttr,decide_eq_true_eq,decide_eq_false_iff_not]
 refine XE.brN (fun h4=>?_) (fun h4=>?_)
 ·have hi2:i < L.length:=by omega
  have hwi:=qj (i:=i) (by omega)
  have htk:=qO hi2
  have hsub:ts.Sublist (L.take (i + 1)):=by rw [htk];exact y2.trans (List.sublist_append_left _ _)
  have hsub2:(ts ++ [L[i]]).Sublist (L.take (i + 1)):=by rw [htk];exact y2.append (List.Sublist.refl _)
  have hgi:(L.map vI).getD i .junk = vI L[i]:=qe hi2
  obtain ⟨o,a2,ha2,sO⟩:=jh5 l a1 2 hl y4 (by omega)
  generalize L[i] = v at hgi hsub2
  simp only [tZ,↓un_u,simprocAttr,Int.toNat_natCast,hgi]
  refine XE.sd (by omega) ?_
  by_cases hv:v = m
  ·have q:(v != m) = false:=bne_eq_false_iff_eq.2 hv
   simp only [tZ,↓un_u,simprocAttr,q]
   refine XE.mp (fun _ _=>C2.no (by simp)) ?_
   simp only [tZ,↓un_u,simprocAttr,hwi]
   refine XE.next ih (i + 1,ts,a1) ⟨by dsimp only;omega,hsub,y3,y4⟩ (by dsimp only;omega) fun e ⟨_,hst⟩=>?_
   exact .oA [(0,some 0),(4096,some 4096),(1,some 1)] []
  ·have q:(v != m) = true:=bne_iff_ne.2 hv
   have hin:∀ u∈ts ++ [v],u≠m:=fun u hu=>by
    rcases List.mem_append.1 hu with h | h
    ·exact y3 u h
    ·rw [List.mem_singleton.1 h];exact hv
   by_cases hts:ts.length = 0
   ·have q2:((ts.length:Int) == 0) = true:=beq_iff_eq.2 (by omega)
    simp only [tZ,↓un_u,simprocAttr,q,q2]
    refine XE.mp (fun _ _=>C2.no (by simp)) ?_
    simp only [tZ,↓un_u,simprocAttr,Int.toNat_natCast,hgi,hwi]
    refine XE.sd (by omega) (XE.sd (by omega) ?_)
    refine XE.next ih (i + 1,ts ++ [v],a1) ⟨by dsimp only;omega,hsub2,hin,y4⟩ (by dsimp only;omega) fun e ⟨_,hst⟩=>?_
    exact .oA [(0,some 0),(4096,some 4096),(1,some 1)] []
   ·have q2:((ts.length:Int) == 0) = false:=beq_eq_false_iff_ne.2 (by omega)
    simp only [tZ,↓un_u,simprocAttr,q,q2]
    refine XE.mp (fun _ _=>C2.one (by trivial)) ?_
    refine XE.mp (fun _ _=>C1.draw 0 l a1 _ sO rfl rfl rfl) ?_
    simp only [tZ,↓un_u,simprocAttr,Int.toNat_natCast,hgi,hwi]
    refine XE.brB (fun h5=>?_) (fun h5=>?_)
    ·refine XE.sd (by omega) (XE.sd (by omega) ?_)
     refine XE.next ih (i + 1,ts ++ [v],a2) ⟨by dsimp only;omega,hsub2,hin,ha2⟩ (by dsimp only;omega) fun e ⟨_,hst⟩=>?_
     exact .oA [(0,some 0),(4096,some 4096),(1,some 1)] []
    ·refine XE.next ih (i + 1,ts,a2) ⟨by dsimp only;omega,hsub,y3,ha2⟩ (by dsimp only;omega) fun e ⟨_,hst⟩=>?_
     exact .oA [(0,some 0),(4096,some 4096),(1,some 1)] []
 ·have hil:i = L.length:=by omega
  rw [hil,List.take_length] at y2
  refine XE.fin (ts,a1) ⟨⟨by dsimp only;omega,fun h=>zW2 h (by dsimp only;omega) (fun v hv=>⟨hm v (y2.subset hv),y3 v hv⟩) (hnd.sublist y2)⟩,y4⟩ fun e ⟨_,hst⟩=>?_
  exact .oA [(0,some 0)] [1]
end Go.Proofs
namespace Go.Proofs
open Go Go.TL
set_option maxRecDepth 4000
set_option maxHeartbeats 8000000
theorem jm9:qa9 cnd0 cnd0 = true:=by decide +kernel
theorem qt3 {s:Sch} {nm:ByteArray} {c:Cnd} {ds:List Pk} {m:Int} (hE:schE s = 0) (h1:kg nm = true) (h2:chkC s c = 0) (h3:Js s ds = 0) (h4:m = -1∨isB s m 3 = true):qstE s ⟨nm,1,c,ds,m,[],cnd0⟩ = 0:=by
 have hp:kD s ⟨nm,1,c,ds,m,[],cnd0⟩ = 0:=by
  rw [kD,if_pos rfl,if_neg (by rw [h3];simp),if_neg]
  rintro ⟨a,b⟩
  rcases h4 with h | h
  ·exact a h
  ·rw [h] at b;cases b
 rw [qstE,if_neg (by rw [hE];simp),if_neg (by rw [h1];simp),if_neg (by simp),if_neg (by rw [h2];simp),if_neg (by rw [hp];simp),if_neg (by rw [jm9];simp)]
theorem zW3 {s:Sch} {nm:ByteArray} {c:Cnd} {ts:List Int} {m:Int} (hE:schE s = 0) (h1:kg nm = true) (h2:chkC s c = 0) (h3:yg s m ts = 0) (h4:isB s m 3 = true):qstE s ⟨nm,2,c,[],m,ts,cnd0⟩ = 0:=by
 have hp:kD s ⟨nm,2,c,[],m,ts,cnd0⟩ = 0:=by
  rw [kD,if_neg (by simp),if_pos rfl,if_neg (by rw [h4];simp)]
  exact h3
 rw [qstE,if_neg (by rw [hE];simp),if_neg (by rw [h1];simp),if_neg (by simp),if_neg (by rw [h2];simp),if_neg (by rw [hp];simp),if_neg (by rw [jm9];simp)]
theorem zW4 {s:Sch} {nm:ByteArray} {c d:Cnd} {m:Int} (hE:schE s = 0) (h1:kg nm = true) (h2:chkC s c = 0) (h3:chkC s d = 0) (h4:isB s m 3 = true) (h5:0≤(qh s m.toNat).low):qstE s ⟨nm,3,c,[],m,[],d⟩ = 0:=by
 have hp:kD s ⟨nm,3,c,[],m,[],d⟩ = 0:=by
  rw [kD,if_neg (by simp),if_neg (by simp),if_neg (by rw [h4];simp),if_neg (by dsimp only;omega)]
  exact h3
 rw [qstE,if_neg (by rw [hE];simp),if_neg (by rw [h1];simp),if_neg (by simp),if_neg (by rw [h2];simp),if_neg (by rw [hp];simp),if_neg (by simp)]
theorem CndOk.mono {s:Sch} {n m:Nat} {c:Cnd} (h:CndOk s n c) (hn:n≤m):CndOk s m c:=by
 have h1:=h.dep
 have h2:=h.siz
 have h3:2 ^ (n + 1)≤2 ^ (m + 1):=Nat.pow_le_pow_right (by omega) (by omega)
 exact ⟨h.ok,by omega,by omega⟩
theorem Wa (s:Sch) (hd:DrS s) (nm:ByteArray) (hnm:kg nm = true) (l:List UInt8) (a:Nat) (hl:l.length≤400) (ha:a≤l.length) :
 ∃ r:Qst×Nat,((qstE s r.1 = 0∧r.1.name = nm∧CndOk s 2 r.1.filt)∧r.2≤l.length)∧Spc Tryz.prog jU [.ptr 0 1 0 0,schT s,vS nm] [(0,oC l a)] (qstT r.1) [(0,oC l r.2)]:=by
 have hE:=hd.ok
 have hok:=za hE
 have hnc:=hok.nc
 have hat:∀ i (h:i < s.cols.length),qh s i = s.cols[i]:=fun i h=>by rw [qh,qk h]
 obtain ⟨j,a1,j1,j2,ha1,sN⟩:=ZA l a 3 hl ha (by omega)
 obtain ⟨D,rfl⟩:=Int.eq_ofNat_of_zero_le j1
 obtain ⟨⟨c,a2⟩,⟨hc,ha2⟩,sC⟩:=yK s hd l hl D a1 ha1 (by omega)
 dsimp only at hc ha2 sC
 have hcf:=hc.chk hE (by omega)
 have hcm:=hc.mono (m:=2) (by omega)
 obtain ⟨v,a3,hv,ha3,sV⟩:=yJ s hd l a2 hl ha2
 obtain ⟨_,v2,v3⟩:=zC.1 hv
 rw [Int.toNat_natCast] at v3
 have hil:v < s.cols.length:=by omega
 obtain ⟨w,a4,w1,w2,ha4,sK⟩:=ZA l a3 4 hl ha3 (by omega)
 refine jT KN mixm (fun r:Qst×Nat=>qstT r.1) (fun r=>[(0,oC l r.2)]) (by simp) ?_
 unfold jK
 refine sW ?_
 refine XE.mp (fun _ _=>C1.draw 0 l a _ sN rfl rfl rfl) ?_
 refine sW ?_
 refine XE.mp (fun _ _=>C1.draw 0 l a1 _ sC rfl rfl rfl) ?_
 refine sW ?_
 refine XE.sd (by kernel_rfl) ?_
 refine XE.mp (fun _ _=>C1.draw 0 l a2 _ sV rfl rfl rfl) ?_
 refine sW ?_
 refine XE.mp (fun _ _=>C1.draw 0 l a3 _ sK rfl rfl rfl) ?_
 simp only [tZ,↓un_u,simprocAttr,beq_iff_eq,beq_eq_false_iff_ne]
 refine XE.brN (fun h1=>?_) (fun h1=>XE.brN (fun h2=>?_) (fun h2=>XE.brN (fun h3=>?_) (fun h3=>?_)))
 ·obtain ⟨⟨ds,b2⟩,⟨hds,hb2⟩,sQ⟩:=kB s hd l a4 hl ha4
  dsimp only at hds hb2 sQ
  refine XE.mp (fun _ _=>C1.draw 0 l a4 _ sQ rfl rfl rfl) ?_
  refine sW ?_
  refine XE.fin (⟨nm,1,c,ds,v,[],cnd0⟩,b2) ⟨⟨qt3 hE hnm hcf hds (.inr hv),rfl,hcm⟩,hb2⟩ fun e ⟨_,hst⟩=>?_
  exact .oA [(0,some 0)] []
 ·obtain ⟨⟨ts,a5⟩,⟨⟨ht1,ht2⟩,ha5⟩,sT⟩:=qj1 s hd v l a4 hl ha4
  dsimp only at ht1 ht2 ha5 sT
  refine XE.mp (fun _ _=>C1.draw 0 l a4 _ sT rfl rfl rfl) ?_
  simp only [tZ,↓un_u,simprocAttr,decide_eq_true_eq,decide_eq_false_iff_not]
  refine XE.brN (fun h3=>?_) (fun h3=>?_)
  ·refine XE.fin (⟨nm,2,c,[],v,ts,cnd0⟩,a5) ⟨⟨zW3 hE hnm hcf (ht2 (by omega)) hv,rfl,hcm⟩,ha5⟩ fun e ⟨_,hst⟩=>?_
   exact .oA [(0,some 0)] []
  ·obtain ⟨⟨ds,b2⟩,⟨hds,hb2⟩,sQ⟩:=kB s hd l a5 hl ha5
   dsimp only at hds hb2 sQ
   refine XE.mp (fun _ _=>C1.draw 0 l a5 _ sQ rfl rfl rfl) ?_
   refine sW ?_
   refine XE.fin (⟨nm,1,c,ds,-1,[],cnd0⟩,b2) ⟨⟨qt3 hE hnm hcf hds (.inl rfl),rfl,hcm⟩,hb2⟩ fun e ⟨_,hst⟩=>?_
   exact .oA [(0,some 0)] []
 ·simp only [tZ,↓un_u,simprocAttr,Int.toNat_natCast,qe hil,decide_eq_true_eq,decide_eq_false_iff_not]
  refine XE.sd (by omega) ?_
  refine XE.brN (fun h4=>?_) (fun h4=>?_)
  ·obtain ⟨⟨d,a5⟩,⟨hdc,ha5⟩,sE⟩:=yK s hd l hl 1 a4 ha4 (by omega)
   dsimp only at hdc ha5 sE
   refine XE.mp (fun _ _=>C1.draw 0 l a4 _ sE rfl rfl rfl) ?_
   refine sW ?_
   refine XE.fin (⟨nm,3,c,[],v,[],d⟩,a5) ⟨⟨zW4 hE hnm hcf (hdc.chk hE (by omega)) hv (by rw [Int.toNat_natCast,hat v hil];omega),rfl,hcm⟩,ha5⟩ fun e ⟨_,hst⟩=>?_
   exact .oA [(0,some 0)] []
  ·obtain ⟨⟨ds,b2⟩,⟨hds,hb2⟩,sQ⟩:=kB s hd l a4 hl ha4
   dsimp only at hds hb2 sQ
   refine XE.mp (fun _ _=>C1.draw 0 l a4 _ sQ rfl rfl rfl) ?_
   refine sW ?_
   refine XE.fin (⟨nm,1,c,ds,-1,[],cnd0⟩,b2) ⟨⟨qt3 hE hnm hcf hds (.inl rfl),rfl,hcm⟩,hb2⟩ fun e ⟨_,hst⟩=>?_
   exact .oA [(0,some 0)] []
 ·obtain ⟨⟨ds,b2⟩,⟨hds,hb2⟩,sQ⟩:=kB s hd l a4 hl ha4
  dsimp only at hds hb2 sQ
  refine XE.mp (fun _ _=>C1.draw 0 l a4 _ sQ rfl rfl rfl) ?_
  refine sW ?_
  refine XE.fin (⟨nm,1,c,ds,-1,[],cnd0⟩,b2) ⟨⟨qt3 hE hnm hcf hds (.inl rfl),rfl,hcm⟩,hb2⟩ fun e ⟨_,hst⟩=>?_
  exact .oA [(0,some 0)] []
end Go.Proofs
namespace Go.Proofs
open Go Go.TL
set_option maxRecDepth 4000
set_option maxHeartbeats 8000000
def awL:CodL:=⟨⟨#[108]⟩,[⟨⟨#[97]⟩,-1⟩,⟨⟨#[98]⟩,0⟩,⟨⟨#[99]⟩,0⟩,⟨⟨#[100]⟩,1⟩,⟨⟨#[101]⟩,2⟩]⟩
def awS9:Sch:=⟨[awL],[⟨⟨#[119,104,111]⟩,1,0,0,0,[],false⟩,⟨⟨#[115,101,120]⟩,2,0,0,0,[],false⟩]⟩
def awQ9:Qst:=⟨⟨#[113]⟩,1,.mk 1 0 0 0 0 [],[⟨1,2⟩],-1,[],cnd0⟩
theorem qR4:JI awS9:=⟨by decide,by decide,by decide⟩
theorem qR5:Spc Tryz.prog JY [] [] (vB true) []:=by
 have hN:=kA awS9 qR4 awQ9
 rw [show ZF awS9 awQ9 = [⟨1,1⟩] by kernel_rfl] at hN
 have hP:=qm8 [⟨1,1⟩] [⟨1,1⟩] (by decide)
 rw [show qz9 [⟨1,1⟩] [⟨1,1⟩] = true by kernel_rfl] at hP
 have hS1:=wx awS9 qR4 awQ9 [⟨1,1⟩] (by decide)
 rw [show sufB awS9 awQ9 [⟨1,1⟩] = true by kernel_rfl] at hS1
 have hS2:=wx awS9 qR4 awQ9 [] (by decide)
 rw [show sufB awS9 awQ9 [] = false by kernel_rfl] at hS2
 have hT:=jt awS9 qR4 awQ9 1 3 4
 rw [show Qa awS9 awQ9 1 3 4 = true by kernel_rfl] at hT
 refine qd qC2 mixm (by simp) fun e _ hst=>qg ?_
 unfold ZO
 refine sW ?_
 refine C1.shutD [8212,8220,8232,12296] hN ?_ (by rfl) rfl ?_
 ·simp [ptw,ltAD,ltD,TL.get,T.cells,imT,imL,awS9,awQ9,awL]
  all_goals (try (repeat' apply And.intro))
  all_goals (try rfl)
 refine sW ?_
 refine C1.lendD [20488] hP ?_ (by rfl) (by rfl) ?_
 ·simp [ptw,ltAD,ltD,TL.get,T.cells,imT,imL]
  all_goals (try (repeat' apply And.intro))
  all_goals (try rfl)
 refine sW ?_
 refine C2.lendD [8212,8220,8232,12296] (fun _=>hS1) (fun _=>?_) (by rfl) (by rfl) ?_
 ·simp [ptw,ltAD,ltD,TL.get,T.cells,imT,imL,awS9,awQ9,awL]
  all_goals (try (repeat' apply And.intro))
  all_goals (try rfl)
 refine sW ?_
 refine C2.lendD [8212,8220,8232,12296] (fun _=>hS2) (fun _=>?_) (by rfl) (by rfl) ?_
 ·simp [ptw,ltAD,ltD,TL.get,T.cells,imT,imL,awS9,awQ9,awL]
  all_goals (try (repeat' apply And.intro))
  all_goals (try rfl)
 refine sW ?_
 refine C2.lendD [8212,8220,8232,12296] (fun _=>hT) (fun _=>?_) (by rfl) (by rfl) ?_
 ·simp [ptw,ltAD,ltD,TL.get,T.cells,imT,imL,awS9,awQ9,awL]
  all_goals (try (repeat' apply And.intro))
  all_goals (try rfl)
 refine sW ?_
 exact .oA [] []
end Go.Proofs
namespace Go.Proofs
open Go Go.TL
set_option maxRecDepth 4000
set_option maxHeartbeats 8000000
theorem zO5 {s:Sch} {l:List Pk} (hE:schE s = 0) (h1:∀ p∈l,Jr s p = 0) (h2:l.Pairwise fun a b=>a.col < b.col):WG s l = 0:=by
 rw [WG,if_neg (by rw [hE];simp)]
 refine qh8 fun i hi=>?_
 have hp:pkAt l i = l[i]:=by rw [pkAt,qk hi]
 rw [zb1,hp,if_neg (by rw [h1 _ (List.getElem_mem hi)];simp),if_neg]
 rintro ⟨h3,h4⟩
 rw [pkAt,qk (by omega)] at h4
 have:=List.pairwise_iff_getElem.1 h2 (i - 1) i (by omega) hi (by omega)
 omega
end Go.Proofs
namespace Go.Proofs
open Go Go.TL
set_option maxRecDepth 4000
set_option maxHeartbeats 8000000
theorem DrS.nl0 {s:Sch} (h:DrS s):0 < s.lists.length:=by
 obtain ⟨a,b,e,_⟩:=h.ls
 rw [e];simp
end Go.Proofs
namespace Go.Proofs
open Go Go.TL
set_option maxRecDepth 4000
set_option maxHeartbeats 8000000
end Go.Proofs
namespace Go.Proofs
open Go Go.TL
set_option maxRecDepth 4000
set_option maxHeartbeats 8000000
theorem zs6 (f:Nat→Int):∀ n,((canF f n).Pairwise fun a b=>a.col < b.col)∧∀ p∈canF f n,p.col < n
 | 0=>⟨List.Pairwise.nil,by simp [canF]⟩
 | n + 1=>by
   obtain ⟨h1,h2⟩:=zs6 f n
   rw [canF]
   split
   ·refine ⟨List.pairwise_append.2 ⟨h1,by simp,fun p hp q hq=>?_⟩,fun p hp=>?_⟩
    ·rw [List.mem_singleton.1 hq];exact h2 p hp
    ·rcases List.mem_append.1 hp with hp | hp
     ·have:=h2 p hp;omega
     ·rw [List.mem_singleton.1 hp];dsimp only;omega
   ·rw [List.append_nil]
    exact ⟨h1,fun p hp=>by have:=h2 p hp;omega⟩
theorem jh7 {s:Sch} (hE:schE s = 0) {c:Nat} (h1:1≤c) (h2:c < s.cols.length) {v:Int} (h3:0≤v) (h4:v≤finI s c):Jr s ⟨c,v⟩ = 0:=by
 rw [Jr,if_neg (by rw [hE];simp),if_neg (by dsimp only;omega),if_neg]
 rw [Bool.not_eq_false,yk]
 exact ⟨h3,h4⟩
theorem zw6 {s:Sch} (hE:schE s = 0) {f:Nat→Int} (h:∀ k,k < s.cols.length→0 < f k→1≤k∧f k≤finI s k):WG s (canF f s.cols.length) = 0:=by
 refine zO5 hE (fun p hp=>?_) (zs6 f _).1
 obtain ⟨k,k1,k2,rfl⟩:=Yb.1 hp
 obtain ⟨h1,h2⟩:=h k k1 k2
 exact jh7 hE h1 k1 (by omega) h2
theorem jc7 {l:List Pk} {k F:Int} (hF:0≤F) (h:∀ p∈l,p.col = k→p.lev≤F):mxl l k≤F:=by
 induction l with
 | nil=>exact hF
 | cons p r ih=>
   have h1:=ih fun q hq=>h q (List.mem_cons_of_mem _ hq)
   rw [mxl]
   split
   ·rename_i e
    have:=h p (by simp) e
    omega
   ·exact h1
theorem zc4 {s:Sch} {c lev:Int} (h:0≤lev) (h2:lev≤finI s c):yh s c lev≤lev∧0≤yh s c lev∧divB s c.toNat (yh s c lev).toNat lev.toNat = true∧∀ m:Nat,(m:Int) < yh s c lev→divB s c.toNat m lev.toNat = false:=by
 have h59:lev≤59∨schE s≠0:=by
  by_cases e:schE s = 0
  ·have:=qb0 (c:=c) e;exact .inl (by omega)
  ·exact .inr e
 have hE:schE s = 0:=(Qw (s:=s) (c:=c) (by omega)).1
 have h59:=qb0 (c:=c) hE
 rw [yh,if_neg (by rw [Bool.not_eq_false,yk];omega)]
 obtain ⟨a,b,_,d⟩:=qa8 (p:=fun n=>divB s c.toNat n lev.toNat) (N:=lev.toNat) (zr4 s _ _) 64 0 (by omega) (by omega)
 refine ⟨by omega,by omega,by rw [Int.toNat_natCast];exact a,fun m hm=>d m (by omega) (by omega)⟩
theorem zh6 {s:Sch} (hE:schE s = 0) {k:Nat} (h1:1≤k) (h2:k < s.cols.length):0≤finI s k:=by
 have hok:=za hE
 have hkk:=qY (hok.cs k h2)
 have h3:=hkk.2.2.1 h1
 refine (zO4 hE (v:=k) ?_).2.2.1
 rcases (show (qh s k).kind = 2∨(qh s k).kind = 3 by omega) with h | h
 ·exact .inl (zC.2 ⟨by omega,by omega,by rw [Int.toNat_natCast];exact h⟩)
 ·exact .inr (zC.2 ⟨by omega,by omega,by rw [Int.toNat_natCast];exact h⟩)
theorem jh8 {s:Sch} {c:Cnd} (h:chkC s c = 0):∀ p∈atP s c,p.lev≤finI s p.col:=fun p hp=>by
 obtain ⟨hE,k2,k3,k4⟩:=qb2 h
 obtain ⟨a,ha,rfl⟩:=List.mem_map.1 hp
 obtain ⟨hnd,hia⟩:=za8 c k4 a ha
 exact (qi5 hE hnd hia).1
theorem zO6 {s:Sch} {c:Cnd} (h:chkC s c = 0):∀ p∈zw s c,p.lev≤finI s p.col:=fun p hp=>by
 have hE:=(qb2 h).1
 obtain ⟨h1,h2⟩:=JO h
 rw [h1,Yb] at hp
 obtain ⟨k,k1,k2,rfl⟩:=hp
 have h0:1≤k:=by
  rcases Nat.eq_zero_or_pos k with e | e
  ·subst e
   rw [Kz fun q hq=>by have:=h2 q hq;omega] at k2
   omega
  ·exact e
 exact jc7 (zh6 hE h0 k1) fun p hp e=>by rw [← e];exact jh8 h p hp
theorem zO7 {s:Sch} {q:Qst} (hq:QstOk s q):∀ p∈qb9 s q,p.lev≤finI s p.col:=fun p hp=>by
 unfold qb9 at hp
 rcases List.mem_append.1 hp with hp | hp
 ·rcases List.mem_append.1 hp with hp | hp
  ·obtain ⟨d,hd,rfl⟩:=List.mem_map.1 hp
   obtain ⟨_,h1,h2,h3,h4⟩:=zr3 (zc2 hq d hd).1
   have:=zc4 h3 h4
   dsimp only;omega
  ·obtain ⟨k,h1,h2,rfl⟩:=zN9.1 hp
   unfold usB at h2
   rw [Bool.and_eq_true,decide_eq_true_eq] at h2
   have h3:=zh6 hq.sch (k:=k) (by omega) h1
   have:=zc4 h3 (Int.le_refl _)
   dsimp only;omega
 ·obtain ⟨c,hc,hp⟩:=List.mem_flatMap.1 hp
  exact zO6 (zN8 hq c hc) p hp
theorem jh9 {s:Sch} {q:Qst} (hq:QstOk s q) (k:Nat) (hk:k < s.cols.length) (h:0 < mxl (qb9 s q) k):1≤k∧mxl (qb9 s q) k≤finI s k:=by
 have h0:1≤k:=by
  rcases Nat.eq_zero_or_pos k with e | e
  ·subst e
   rw [Kz fun q' hq'=>by have:=qR1 hq q' hq';omega] at h
   omega
  ·exact e
 exact ⟨h0,jc7 (zh6 hq.sch h0 hk) fun p hp e=>by rw [← e];exact zO7 hq p hp⟩
theorem zh7 {s:Sch} {q:Qst} (h:qstE s q = 0):WG s (ZF s q) = 0:=by
 have hq:=qb4 h
 rw [JP h]
 exact zw6 hq.sch (jh9 hq)
theorem zc5 {f g:Nat→Int} {n:Nat} (h:∀ k,k < n→f k≤g k):covB (canF f n) (canF g n) = true:=by
 unfold covB
 rw [List.all_eq_true]
 intro p hp
 obtain ⟨k,k1,k2,rfl⟩:=Yb.1 hp
 have:=h k k1
 exact List.any_eq_true.2 ⟨⟨k,g k⟩,Yb.2 ⟨k,k1,by omega,rfl⟩,by rw [Bool.and_eq_true,beq_iff_eq,decide_eq_true_eq];exact ⟨rfl,this⟩⟩
def Qy (q:Qst) (x:Cnd):Qst:=⟨q.name,q.kind,.mk 5 0 0 0 0 [q.filt,x],q.dims,q.meas,q.terms,q.event⟩
theorem qR6 {s:Sch} {q:Qst} {x:Cnd} (h:qstE s q = 0) (hf:CndOk s 2 q.filt) (hx:CndOk s 2 x):qstE s (Qy q x) = 0∧chkC s (.mk 5 0 0 0 0 [q.filt,x]) = 0:=by
 have hq:=qb4 h
 have hA:chkC s (.mk 5 0 0 0 0 [q.filt,x]) = 0:=by
  have h1:=zO1 (.mk 5 0 0 0 0 [q.filt,x]) 41 (by omega)
  have h2:=hf.siz
  have h3:=hx.siz
  have h4:=hf.dep
  have h5:=hx.dep
  rw [sizC,WN,WN,WN] at h1
  rw [chkC,if_neg (by rw [hq.sch];simp),if_neg (by omega),if_neg (by rw [depC,js,js,js];omega)]
  exact qR3 (zh5 (.inl rfl) rfl) (by
   show kV s [q.filt,x] = 0
   rw [kV,kV,kV,hf.ok,hx.ok];simp)
 refine ⟨?_,hA⟩
 unfold qstE at h ⊢
 rw [if_neg (by rw [hq.sch];simp)] at h ⊢
 split at h
 ·cases h
 rename_i h2
 split at h
 ·cases h
 rename_i h3
 rw [if_neg (by rw [hq.filt];simp)] at h
 rw [if_neg (show ¬ kg (Qy q x).name = false from h2),if_neg (show ¬ ((Qy q x).kind < 1∨3 < (Qy q x).kind) from h3),if_neg (by rw [show (Qy q x).filt = .mk 5 0 0 0 0 [q.filt,x] from rfl,hA];simp)]
 exact h
theorem zs7 (q:Qst) (x:Cnd):atsC (.mk 5 0 0 0 0 [q.filt,x]) = atsC q.filt ++ atsC x:=by
 rw [qa7,if_neg (show ¬ isAt (.mk 5 0 0 0 0 [q.filt,x]) = true from fun h=>by simp [isAt,Cnd.op,Cnd.col,Cnd.code,Cnd.lo,Cnd.hi,Cnd.kids] at h)]
 show yY [q.filt,x] = _
 rw [yY,yY,yY,List.append_nil]
theorem zs8 {s:Sch} {q:Qst} {x:Cnd} (h:qstE s q = 0) (hf:CndOk s 2 q.filt) (hx:CndOk s 2 x) (k:Nat):mxl (qb9 s (Qy q x)) k = max (mxl (qb9 s q) k) (mxl (zw s x) k):=by
 obtain ⟨_,hA⟩:=qR6 h hf hx
 have hq:=qb4 h
 have hxc:=hx.chk hq.sch (by omega)
 have e:∀ q:Qst,(cnsL q).flatMap (zw s) = zw s q.filt ++ evP s q:=fun q=>by
  unfold cnsL evP
  split <;> simp
 have eu:usP s (Qy q x) s.cols.length = usP s q s.cols.length:=rfl
 have ed:dmP s (Qy q x) = dmP s q:=rfl
 have ee:evP s (Qy q x) = evP s q:=rfl
 have e1:mxl (zw s (.mk 5 0 0 0 0 [q.filt,x])) k = max (mxl (zw s q.filt) k) (mxl (zw s x) k):=by
  rw [WM hA,WM hq.filt,WM hxc,← qn7]
  congr 1
  unfold atP
  rw [zs7,List.map_append]
 rw [qb9,qb9,e,e,eu,ed,ee]
 simp only [qn7]
 rw [show (Qy q x).filt = .mk 5 0 0 0 0 [q.filt,x] from rfl,e1]
 omega
theorem zw7 {s:Sch} {q:Qst} {x:Cnd} (h:qstE s q = 0) (hf:CndOk s 2 q.filt) (hx:CndOk s 2 x) {k a b:Int} (ht:Qa s q k a b = true):Qa s (Qy q x) k a b = true:=by
 obtain ⟨hM,_⟩:=qR6 h hf hx
 unfold Qa at ht ⊢
 simp only [Bool.and_eq_true] at ht ⊢
 refine ⟨⟨⟨beq_iff_eq.2 hM,ht.1.1.2⟩,ht.1.2⟩,?_⟩
 have ht:=ht.2
 unfold qH0 at ht ⊢
 rw [Bool.or_eq_true,Bool.or_eq_true] at ht ⊢
 rcases ht with ht | ht
 ·exact .inl ht
 ·right
  obtain ⟨c,hc,hc2⟩:=List.any_eq_true.1 ht
  obtain ⟨y,hy,hy2⟩:=List.any_eq_true.1 hc2
  have hcc:c = q.filt∨(c = q.event∧q.kind = 3):=by
   unfold cnsL at hc
   split at hc
   ·rename_i h3
    simp only [List.mem_cons,List.not_mem_nil,or_false] at hc
    rcases hc with e | e
    ·exact .inl e
    ·exact .inr ⟨e,h3⟩
   ·exact .inl (List.mem_singleton.1 hc)
  rcases hcc with e | ⟨e,h3⟩
  ·subst e
   refine List.any_eq_true.2 ⟨.mk 5 0 0 0 0 [q.filt,x],?_,List.any_eq_true.2 ⟨y,by rw [zs7];exact List.mem_append.2 (.inl hy),hy2⟩⟩
   unfold cnsL
   split <;> exact List.mem_cons_self
  ·subst e
   refine List.any_eq_true.2 ⟨q.event,?_,hc2⟩
   unfold cnsL
   rw [if_pos (show (Qy q x).kind = 3 from h3)]
   exact List.mem_cons_of_mem _ (List.mem_singleton.2 rfl)
theorem zw8 {s:Sch} {q:Qst} {k a:Int}:Qa s q k a a = false:=by
 have:qH0 s q k a a = false:=by
  unfold qH0
  simp
 unfold Qa
 rw [this,Bool.and_false]
theorem zw9 {s:Sch} {q:Qst} {k a b:Int}:Qa s q k a b = Qa s q k b a:=by
 have hb:∀ x y:Int,(x != y) = (y != x):=fun x y=>by rw [Bool.eq_iff_iff,bne_iff_ne,bne_iff_ne];exact ⟨fun h e=>h e.symm,fun h e=>h e.symm⟩
 have:qH0 s q k a b = qH0 s q k b a:=by
  unfold qH0
  simp only [hb a b,hb (qK s k _ a) (qK s k _ b),hb (jD s _ a) (jD s _ b)]
 unfold Qa
 rw [this]
 cases canB s k a <;> cases canB s k b <;> simp
end Go.Proofs
namespace Go.Proofs
open Go Go.TL
set_option maxRecDepth 4000
set_option maxHeartbeats 8000000
theorem WO (bs:List UInt8):Spc Tryz.prog yV [vL bs] [] (vB true) []:=by
 have hl4:(bs.take 400).length≤400:=by rw [List.length_take];omega
 obtain ⟨⟨s,a1⟩,⟨hD,ha1⟩,sS⟩:=qc0 (bs.take 400) 0 hl4 (by omega)
 dsimp only at hD ha1 sS
 obtain ⟨⟨q,a2⟩,⟨⟨hq,_,hqf⟩,ha2⟩,sQ⟩:=Wa s hD ⟨#[113]⟩ (by kernel_rfl) (bs.take 400) a1 hl4 ha1
 dsimp only at hq hqf ha2 sQ
 obtain ⟨⟨x,a3⟩,⟨hx1,ha3⟩,sC⟩:=yK s hD (bs.take 400) hl4 1 a2 ha2 (by omega)
 dsimp only at hx1 ha3 sC
 have hx:=hx1.mono (m:=2) (by omega)
 have hE:=hD.ok
 have hok:=za hE
 have hs:=hok.sm
 have hL:=hD.nl0
 have hnc:=hok.nc
 obtain ⟨hM,hA⟩:=qR6 hq hqf hx
 have hxc:=hx.chk hE (by omega)
 have sN1:=kA s hs q
 have sN2:=kA s hs (Qy q x)
 have n1:=qB1 s q
 have n2:=qB1 s (Qy q x)
 have n3:=qi8 s x
 have sV1:=YC (ZF s q) (ZF s (Qy q x)) (by omega) (by omega)
 have hcx:=JO hxc
 have hv1:covB (ZF s q) (ZF s (Qy q x)) = true:=by
  rw [JP hq,JP hM]
  exact zc5 fun k _=>by rw [zs8 hq hqf hx];omega
 have hv2:covB (zw s x) (ZF s (Qy q x)) = true:=by
  rw [hcx.1,JP hM]
  exact zc5 fun k _=>by rw [zs8 hq hqf hx,WM hxc];omega
 have hv3:sufB s q (ZF s (Qy q x)) = true:=by
  rw [sufB,hq,zh7 hM,hv1];rfl
 rw [hv1] at sV1
 have sV2:=YC (zw s x) (ZF s (Qy q x)) (by omega) (by omega)
 rw [hv2] at sV2
 have sV3:=wx s hs q (ZF s (Qy q x)) (by omega)
 rw [hv3] at sV3
 have sNx:=qQ8 s hs hL x
 generalize ZF s q = A at sN1 sV1
 generalize ZF s (Qy q x) = B at sN2 sV1 sV2 sV3
 generalize zw s x = C at sNx sV2
 refine JU [7] KL mixm (by simp) fun e _ hst=>qg ?_
 unfold jJ
 simp only [KJ,List.contains_cons,List.contains_nil,Nat.reduceBEq,Bool.or_false,Bool.or_true,Bool.true_or,Bool.false_or,cond_true,cond_false]
 refine sW ?_
 refine C1.newdraw 8196 (zw1 bs) rfl rfl ?_
 generalize bs.take 400 = m at hl4 sS sQ sC ha1 ha2 ha3 ⊢
 refine sW ?_
 refine C1.draw 8196 m 0 _ sS rfl rfl rfl ?_
 refine sW ?_
 refine C1.draw 8196 m a1 _ sQ rfl rfl rfl ?_
 refine sW ?_
 refine C1.draw 8196 m a2 _ sC rfl rfl rfl ?_
 refine sW ?_
 have e1:=zq q.filt
 have e2:=zq x
 have hself:=fun k a=>zw8 (s:=s) (q:=q) (k:=k) (a:=a)
 have hcomm:=fun k a b=>zw9 (s:=s) (q:=q) (k:=k) (a:=a) (b:=b)
 have hmore:=fun k a b=>zw7 (k:=k) (a:=a) (b:=b) hq hqf hx
 refine jn5 [(8196,oC m a3),(12296,.arr 2 [schT s] false),(16396,.arr 17 [qstT q] false),(20484,.arr 17 [qstT (Qy q x)] false),(24588,.arr 6 [cnT x] false)] ?_ ?_
 ·show Le _ _ ⟨_,[(8196,oC m a3),(12296,.arr 2 [schT s] false),(16396,.arr 17 [qstT q] false),(20484,.arr 17 [.agg [vS q.name,vI q.kind,vI 5,vI 0,vI 0,vI 0,vI 0,.sl 6 [cndT q.filt,cndT x],vPs q.dims,vI q.meas,vIs q.terms,vI q.event.op,vI q.event.col,vI q.event.code,vI q.event.lo,vI q.event.hi,vCs q.event.kids]] false),(24588,.arr 6 [cnT x] false)]⟩
  rw [e1,e2]
  refine .of [(8196,some 8196),(12296,some 12296),(16396,some 16396),(20484,some 20484),(24588,some 24588)] [28684] rfl (by first | rfl | (rw [hst];rfl)) ?_ ?_
  all_goals (try simp only [tL,simprocAttr,List.map_append,List.map_cons,List.map_nil,List.cons_append,List.nil_append])
  all_goals (try (repeat' (first | exact qZ | (apply zy;intro _;exact ⟨rfl,rfl⟩) | (apply qD;intro _;exact ⟨rfl,rfl⟩) | with_reducible apply qR | with_reducible refine qT ⟨rfl,rfl⟩ ?_ | exact ze | with_reducible apply qH | with_reducible refine qM ⟨rfl,rfl,?_⟩ ?_ | with_reducible apply And.intro | exact qJ rfl | exact qJ (by assumption) | (refine ⟨⟨?_,rfl,?_,rfl,?_⟩,trivial⟩ <;> first | (simp;done) | (apply qD;intro _;exact ⟨rfl,rfl⟩)) | trivial | rfl | (rw [qj (by omega)]) | omega)))
  simp only [T.cells,tL,simprocAttr]
  all_goals (try simp only [tL,simprocAttr,List.map_append,List.map_cons,List.map_nil,List.cons_append,List.nil_append])
  all_goals (try (repeat' (first | exact qZ | (apply zy;intro _;exact ⟨rfl,rfl⟩) | (apply qD;intro _;exact ⟨rfl,rfl⟩) | with_reducible apply qR | with_reducible refine qT ⟨rfl,rfl⟩ ?_ | exact ze | with_reducible apply qH | with_reducible refine qM ⟨rfl,rfl,?_⟩ ?_ | with_reducible apply And.intro | exact qJ rfl | exact qJ (by assumption) | (refine ⟨⟨?_,rfl,?_,rfl,?_⟩,trivial⟩ <;> first | (simp;done) | (apply qD;intro _;exact ⟨rfl,rfl⟩)) | trivial | rfl | (rw [qj (by omega)]) | omega)))
  done
 refine sW ?_
 refine C1.im sN1 (by rfl) (by rfl) ?_
 refine sW ?_
 refine C1.im sN2 (by rfl) (by rfl) ?_
 refine sW ?_
 refine ⟨by kernel_rfl,?_⟩
 refine C1.im sV1 (by rfl) (by rfl) ?_
 refine sW ?_
 refine C2.im (fun _=>sNx) (fun _=>rfl) (by rfl) ?_
 refine sW ?_
 refine C2.im (fun _=>sV2) (fun _=>rfl) (by rfl) ?_
 refine sW ?_
 refine C2.im (fun _=>sV3) (fun _=>rfl) (by rfl) ?_
 refine sW ?_
 refine qy mixm (α:=Nat×Nat) [10] (fun y=>1≤y.1∧y.1≤s.cols.length∧y.2≤m.length) (fun y=>[(10,vI y.1)]) (fun y=>[(8196,oC m y.2),(12296,.arr 2 [schT s] false),(16396,.arr 17 [qstT q] false),(20484,.arr 17 [qstT (Qy q x)] false)]) (fun y=>s.cols.length - y.1) (1,a3) ⟨by dsimp only;omega,by dsimp only;omega,ha3⟩ ?_ fun y hy=>?_
 ·exact .oA [(8196,some 8196),(12296,some 12296),(16396,some 16396),(20484,some 20484)] []
 obtain ⟨k,a4⟩:=y
 obtain ⟨y1,y2,y3⟩:=hy
 dsimp only at y1 y2 y3
 refine sD ?_
 refine ⟨fun h3=>?_,fun h3=>?_⟩
 ·have hk:k < s.cols.length:=by omega
  have hwk:=qj (i:=k) (by omega)
  obtain ⟨⟨u,a5⟩,⟨_,ha5⟩,sX⟩:=ZL s hD k hk m a4 hl4 y3
  dsimp only at ha5 sX
  obtain ⟨⟨v,a6⟩,⟨_,ha6⟩,sY⟩:=ZL s hD k hk m a5 hl4 ha5
  dsimp only at ha6 sY
  have t1:=jt s hs q k u v
  have t2:=jt s hs (Qy q x) k u v
  have t3:=jt s hs q k u u
  have t4:=jt s hs q k v u
  rw [hself] at t3
  rw [← hcomm] at t4
  have hm:=hmore k u v
  have hmt:(Qa s q k u v && !Qa s (Qy q x) k u v) = false:=by
   cases h:Qa s q k u v
   ·rfl
   ·rw [hm h];rfl
  refine C1.draw 8196 m a4 _ sX rfl rfl rfl ?_
  refine sW ?_
  refine C1.draw 8196 m a5 _ sY rfl rfl rfl ?_
  refine sW ?_
  refine ⟨by kernel_rfl,?_⟩
  refine C1.im t1 (by rfl) (by rfl) ?_
  refine sW ?_
  refine C2.im (fun _=>t2) (fun _=>rfl) (by rfl) ?_
  simp only [tZ,↓un_u,simprocAttr,hmt]
  refine C2.im (fun _=>t3) (fun _=>rfl) (by rfl) ?_
  refine sW ?_
  refine C2.im (fun _=>t1) (fun _=>rfl) (by rfl) ?_
  refine sW ?_
  refine C2.im (fun _=>t4) (fun _=>rfl) (by rfl) ?_
  simp only [tZ,↓un_u,simprocAttr,bne_self_eq_false,hwk]
  refine ⟨by kernel_rfl,(k + 1,a6),⟨by dsimp only;omega,by dsimp only;omega,ha6⟩,by dsimp only;omega,?_⟩
  exact .oA [(8196,some 8196),(12296,some 12296),(16396,some 16396),(20484,some 20484)] []
 ·refine C1.im qR5 (by rfl) (by rfl) ?_
  refine sW ?_
  exact .oA [] []
end Go.Proofs
