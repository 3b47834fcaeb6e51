/- A part of the proof: trees of Go values, short forms, contracts. -/
import Derived.WalkKit
import Derived.Still
import Derived.MapKept
import GoSem.Builtin.Cap
import Derived.Laws.Externs
import GoSem.Extern.SlicesOverlaps
import Derived.Carry
import Derived.ProofKit
import Derived.OpenShut
import Derived.HandedShaped
import Derived.Lay
import Derived.LaidLaws
import Derived.MakeChecks
import Derived.SevenTiedAt
import Derived.Test.YtlpllebfjgflaaaGreatDoorChecked
import Derived.Test.YtlpllebfjgflaaaGreatDoorK17
set_option linter.unusedSimpArgs false
set_option linter.unusedVariables false
namespace Go.Proofs
open Go Go.TL
set_option maxRecDepth 4000
set_option maxHeartbeats 8000000
open So
def RwSm (l:List (List Int)):Prop:=l.length≤1000000∧∀ r∈l,r.length * 8≤140737488355328
structure ExtSm (x:Ext):Prop where
 rows:RwSm x.rows
 picks:x.picks.length * 16≤140737488355328
structure ChgSm (c:Chg):Prop where
 rows:RwSm c.rows
 gone:c.gone.length≤1000000
end Go.Proofs
namespace Go.Proofs
open Go Go.TL
set_option maxHeartbeats 8000000
open So
theorem kX (l:List Int) (hl:l.length * 8≤140737488355328):Spc Tryz.prog qU [vIs l] [] (vIs l) []:=by
 refine qd yM mixm (by simp) fun e _ hst=>qj ?_
 unfold zZ
 refine sW ?_
 refine ⟨fun h=>?_,?_⟩
 ·have:l = []:=by
   simpa using h
  subst this
  exact .oA [] []
 ·refine ⟨by omega,?_⟩
  exact .oA [] [16384]
theorem ZG (p:(List Int)→Bool) (f:FuncId) (caps:List T) (hcap:imL caps = true) (l:List (List Int)) (hf:∀ y∈l,Spc Tryz.prog f (vIs y :: caps) [] (vB (p y)) []) (hl:l.length < 4611686018427387904) :
 Spc Tryz.prog zU [.sl 1 (l.map vIs),.clo f caps] [] (vI (idxI p l)) []:=by
 refine qd QP mixm (by simp) fun e _ hst=>qj ?_
 unfold zR
 refine sW ?_
 refine qy mixm (α:=Nat) [8] (fun i=>i≤l.length∧((l.take i).any p = false)) (fun i=>[(8,vI i)]) (fun i=>[]) (fun i=>l.length - i) 0 ⟨by omega,?_⟩ ?_ fun i hi=>?_
 ·simp
 ·exact .oA [] []
 simp only [tZ,↓un_u,simprocAttr,decide_eq_true_eq,decide_eq_false_iff_not]
 refine ⟨fun h=>?_,fun h=>?_⟩
 ·have hi2:i < l.length:=by omega
  have hwi:=qh (i:=i) (by omega)
  simp only [tZ,↓un_u,simprocAttr,Int.toNat_natCast,qe hi2,hwi,WF]
  refine ⟨by omega,?_⟩
  refine C1.im (hf l[i] (List.getElem_mem hi2)) (Wc rfl hcap) rfl ?_
  refine sW ?_
  refine ⟨fun h3=>?_,fun h3=>⟨i + 1,⟨by omega,jz hi2 hi.2 h3⟩,by omega,?_⟩⟩
  ·rw [idxI,if_pos (qn5 hi2 h3),kv hi2 hi.2 h3]
   exact .imR rfl rfl
  ·exact .oA [] []
 ·have h2:i = l.length:=by omega
  have h3:=hi.2
  rw [h2,List.take_length] at h3
  rw [idxI,if_neg (by rw [h3];simp)]
  exact .imR rfl rfl
def idxN (n:Int):List Int→Nat
 | []=>0
 | x :: r=>if x = n then 0 else idxN n r + 1
theorem zp1 {n:Int}:∀ {l:List Int} {i:Nat} (h:i < l.length),n∉l.take i→l[i] = n→idxN n l = i
 | [],i,h,_,_=>by simp at h
 | x :: r,0,h,_,hp=>by simp at hp;simp [idxN,hp]
 | x :: r,i + 1,h,h1,hp=>by
   simp only [List.take_succ_cons,List.mem_cons,not_or] at h1
   simp only [idxN]
   rw [if_neg (fun e=>h1.1 e.symm),zp1 (l:=r) (i:=i) (by simpa using h) h1.2 (by simpa using hp)]
def qT8 (l:List Int) (n:Int):Int:=if n∈l then idxN n l else -1
theorem Wt (l:List Int) (n:Int) (hl:l.length < 4611686018427387904):Spc Tryz.prog kS [vIs l,vI n] [] (vI (qT8 l n)) []:=by
 refine qd KC mixm (by simp) fun e _ hst=>qj ?_
 unfold kp
 refine sW ?_
 refine qy mixm (α:=Nat) [8] (fun i=>i≤l.length∧(n∉l.take i)) (fun i=>[(8,vI i)]) (fun i=>[]) (fun i=>l.length - i) 0 ⟨by omega,?_⟩ ?_ fun i hi=>?_
 ·simp
 ·exact .oA [] []
 simp only [tZ,↓un_u,simprocAttr,decide_eq_true_eq,decide_eq_false_iff_not]
 refine ⟨fun h=>?_,fun h=>?_⟩
 ·have hi2:i < l.length:=by omega
  have hwi:=qh (i:=i) (by omega)
  simp only [tZ,↓un_u,simprocAttr,Int.toNat_natCast,qe hi2,hwi,beq_iff_eq,beq_eq_false_iff_ne]
  refine ⟨by omega,fun h3=>?_,fun h3=>⟨i + 1,⟨by omega,?_⟩,by omega,?_⟩⟩
  ·have hm:n∈l:=by rw [h3];exact List.getElem_mem hi2
   rw [qT8,if_pos hm,zp1 hi2 hi.2 h3.symm]
   exact .imR rfl rfl
  ·rw [zz hi2,List.mem_append]
   rintro (h4 | h4)
   ·exact hi.2 h4
   ·simp at h4;exact h3 h4
  ·exact .oA [] []
 ·have h2:i = l.length:=by omega
  have h3:=hi.2
  rw [h2,List.take_length] at h3
  rw [qT8,if_neg h3]
  exact .imR rfl rfl
theorem JB (l:List Int) (n:Int) (hl:l.length < 4611686018427387904):Spc Tryz.prog jq [vIs l,vI n] [] (vB (l.contains n)) []:=by
 refine qd ZM mixm (by simp) fun e _ hst=>qj ?_
 unfold ji
 refine sW ?_
 refine C1.im (Wt l n hl) rfl (by rfl) ?_
 refine sW ?_
 refine .imR ?_ rfl
 unfold qT8
 by_cases h:n∈l
 ·rw [if_pos h,List.contains_iff_mem.2 h];simp
 ·rw [if_neg h]
  cases hc:l.contains n
  ·simp
  ·exact absurd (List.contains_iff_mem.1 hc) h
def cmpK (k:Int) (r:List Int):Int:=if hd r < k then -1 else if hd r > k then 1 else 0
def fndN (l:List (List Int)) (k:Int):Nat:=l.findIdx fun y=>decide (cmpK k y≥0)
theorem zp2 (l:List (List Int)) (k:Int):fndN l k≤l.length:=List.findIdx_le_length
theorem JC {l:List (List Int)} {k:Int} (ha:AscR l) (h:hasK l k = true):∃ hj:fndN l k < l.length,rowK l k = some l[fndN l k]:=by
 obtain ⟨x,hx,e⟩:=List.any_eq_true.1 h
 have e:hd x = k:=by simpa using e
 have h1:fndN l k < l.length:=List.findIdx_lt_length_of_exists ⟨x,hx,by unfold cmpK;grind⟩
 refine ⟨h1,?_⟩
 have h2:=List.findIdx_getElem (p:=fun y=>decide (cmpK k y≥0)) (xs:=l) (w:=h1)
 have h3:¬ hd l[fndN l k] < k:=by
  have:cmpK k l[fndN l k]≥0:=of_decide_eq_true h2
  unfold cmpK at this
  grind
 obtain ⟨i,hi,rfl⟩:=List.getElem_of_mem hx
 have hp:=List.pairwise_iff_getElem.1 ha
 have h4:fndN l k = i:=by
  by_cases c1:fndN l k < i
  ·have:=hp _ i h1 hi c1;omega
  ·by_cases c2:i < fndN l k
   ·have:=List.not_of_lt_findIdx c2
    simp [cmpK] at this
    grind
   ·omega
 have h5:l[fndN l k] = l[i]:=by simp only [h4]
 rw [h5]
 have h6:=(zp0 ha).2 (List.getElem_mem hi)
 rw [e] at h6
 exact h6
end Go.Proofs
namespace Go.Proofs
open Go Go.TL
set_option maxRecDepth 4000
set_option maxHeartbeats 8000000
def bsN (p:List Int→Bool) (l:List (List Int)):Nat→Nat→Nat→Nat
 | 0,i,_=>i
 | f + 1,i,j=>if i < j then (if p (l.getD ((i + j) / 2) []) = true then bsN p l f ((i + j) / 2 + 1) j else bsN p l f i ((i + j) / 2)) else i
theorem Wu {p:List Int→Bool} {l:List (List Int)}:∀ (f g i j:Nat),j - i < f→j - i < g→bsN p l f i j = bsN p l g i j
 | 0,_,_,_,h,_=>by omega
 | _ + 1,0,_,_,_,h=>by omega
 | f + 1,g + 1,i,j,h1,h2=>by
   simp only [bsN]
   split
   ·split
    ·exact Wu f g _ _ (by omega) (by omega)
    ·exact Wu f g _ _ (by omega) (by omega)
   ·rfl
theorem zp3 {p:List Int→Bool} {l:List (List Int)}:∀ (f i j:Nat),i≤j→i≤bsN p l f i j∧bsN p l f i j≤j
 | 0,i,j,h=>⟨Nat.le_refl _,h⟩
 | f + 1,i,j,h=>by
   simp only [bsN]
   split
   ·split
    ·have:=zp3 (p:=p) (l:=l) f ((i + j) / 2 + 1) j (by omega)
     omega
    ·have:=zp3 (p:=p) (l:=l) f i ((i + j) / 2) (by omega)
     omega
   ·omega
theorem qt6 {p:List Int→Bool} {l:List (List Int)} (hm:∀ (i j:Nat) (hi:i < l.length) (hj:j < l.length),i < j→p l[j] = true→p l[i] = true):∀ (f i j:Nat),j - i < f→i≤j→j≤l.length→
 (∀ (m:Nat) (h:m < l.length),m < i→p l[m] = true)→(∀ (m:Nat) (h:m < l.length),j≤m→p l[m] = false)→bsN p l f i j = l.findIdx fun y=>!p y
 | 0,_,_,h,_,_,_,_=>by omega
 | f + 1,i,j,h,h1,h2,h3,h4=>by
   simp only [bsN]
   split
   ·rename_i hij
    have hh:(i + j) / 2 < l.length:=by omega
    rw [show l.getD ((i + j) / 2) [] = l[(i + j) / 2] from qo hh]
    split
    ·rename_i hp
     refine qt6 hm f _ _ (by omega) (by omega) h2 (fun m hm1 hm2=>?_) h4
     by_cases e:m = (i + j) / 2
     ·subst e;exact hp
     ·exact hm m _ hm1 hh (by omega) hp
    ·rename_i hp
     refine qt6 hm f _ _ (by omega) (by omega) (by omega) h3 fun m hm1 hm2=>?_
     cases e2:p l[m] with
     | false=>rfl
     | true=>
       by_cases e:m = (i + j) / 2
       ·subst e;exact absurd e2 hp
       ·exact absurd (hm _ m hh hm1 (by omega) e2) hp
   ·have hij:i = j:=by omega
    subst hij
    by_cases hil:i < l.length
    ·refine (kv hil ?_ ?_).symm
     ·rw [List.any_eq_false]
      intro y hy
      obtain ⟨m,hm1,rfl⟩:=List.getElem_of_mem hy
      rw [List.length_take] at hm1
      rw [List.getElem_take,h3 m (by omega) (by omega)]
      simp
     ·rw [h4 i hil (Nat.le_refl _)];rfl
    ·have:i = l.length:=by omega
     subst this
     symm
     rw [List.findIdx_eq_length]
     intro y hy
     obtain ⟨m,hm1,rfl⟩:=List.getElem_of_mem hy
     rw [h3 m hm1 hm1];rfl
def hitB (c:List Int→Int) (o:Option (List Int)):Bool:=match o with | some y=>c y == 0 | none=>false
theorem zx4 (c:List Int→Int) (x:Int) (f:FuncId) (l:List (List Int)) (hf:∀ y∈l,Spc Tryz.prog f [vIs y,vI x] [] (vI (c y)) []) (hl:l.length < 4611686018427387904) :
 Spc Tryz.prog qR [.sl 1 (l.map vIs),vI x,.clo f []] [] (.tup [vI (bsN (fun y=>decide (c y < 0)) l (l.length + 1) 0 l.length),vB (hitB c l[bsN (fun y=>decide (c y < 0)) l (l.length + 1) 0 l.length]?)]) []:=by
 have hB:=zp3 (p:=fun y=>decide (c y < 0)) (l:=l) (l.length + 1) 0 l.length (by omega)
 have hB0:=(rfl:bsN (fun y=>decide (c y < 0)) l (l.length + 1) 0 l.length = bsN (fun y=>decide (c y < 0)) l (l.length + 1) 0 l.length)
 generalize hR:bsN (fun y=>decide (c y < 0)) l (l.length + 1) 0 l.length = R at hB ⊢
 rw [hR] at hB0
 refine qd jh mixm (by simp) fun e _ hst=>qj ?_
 unfold qM
 refine sW ?_
 refine qy mixm (α:=Nat×Nat) [9,10] (fun p=>p.1≤p.2∧p.2≤l.length∧bsN (fun y=>decide (c y < 0)) l (l.length + 1) p.1 p.2 = R) (fun p=>[(9,vI p.1),(10,vI p.2)]) (fun p=>[]) (fun p=>p.2 - p.1) (0,l.length) ?_ ?_ fun p hp=>?_
 ·exact ⟨by simp,by simp,hR⟩
 ·exact .oA [] []
 obtain ⟨i,j⟩:=p
 obtain ⟨h1,h2,h3⟩:=hp
 dsimp only at h1 h2 h3
 rw [Wu (l.length + 1) (j - i + 1) i j (by omega) (by omega),bsN] at h3
 simp only [tZ,↓un_u,simprocAttr,decide_eq_true_eq,decide_eq_false_iff_not]
 refine ⟨fun h5=>?_,fun h5=>?_⟩
 ·have hij:i < j:=by omega
  rw [if_pos hij] at h3
  obtain ⟨h,hh,hhi,hhj⟩:∃ h:Nat,h = (i + j) / 2∧i≤h∧h < j:=⟨(i + j) / 2,rfl,by omega,by omega⟩
  rw [← hh] at h3
  have hw1:IntKind.i64.wrap ((i:Int) + (j:Int)) = ((i + j:Nat):Int):=by rw [IntWalk.i64_in _ (by omega)];omega
  have hw2:IntKind.u64.wrap ((i + j:Nat):Int) = ((i + j:Nat):Int):=IntWalk.u64_in _ (by omega)
  have hw3:shrI .u64 ((i + j:Nat):Int) 1 = (h:Int):=by
   simp only [shrI]
   rw [show (min (1:Int).toNat IntKind.u64.bits) = 1 from rfl,Int.fdiv_eq_ediv_of_nonneg _ (by decide)]
   omega
  have hw4:IntKind.i64.wrap (h:Int) = (h:Int):=IntWalk.i64_in _ (by omega)
  have hlt:h < l.length:=by omega
  have hws:=qh (i:=h) (by omega)
  have hcall:=hf l[h] (List.getElem_mem hlt)
  rw [show l.getD h [] = l[h] from qo hlt] at h3
  simp only [tZ,↓un_u,simprocAttr,hw1,hw2,hw3,hw4,Int.toNat_natCast,qe hlt]
  refine ⟨by omega,?_⟩
  refine C1.im hcall rfl rfl ?_
  simp only [tZ,↓un_u,simprocAttr,decide_eq_true_eq,decide_eq_false_iff_not,hws]
  refine ⟨fun h6=>?_,fun h6=>?_⟩
  ·rw [if_pos (decide_eq_true h6),Wu (j - i) (l.length + 1) (h + 1) j (by omega) (by omega)] at h3
   refine ⟨(h + 1,j),⟨by simp only;omega,h2,h3⟩,by simp only;omega,?_⟩
   exact .oA [] []
  ·rw [if_neg (fun k=>h6 (of_decide_eq_true k)),Wu (j - i) (l.length + 1) i h (by omega) (by omega)] at h3
   refine ⟨(i,h),⟨by simp only;omega,by simp only;omega,h3⟩,by simp only;omega,?_⟩
   exact .oA [] []
 ·have hij:i = j:=by omega
  subst hij
  rw [if_neg (by omega)] at h3
  subst h3
  by_cases hil:i < l.length
  ·have hg:decide ((i:Int) < (l.length:Int)) = true:=by simp;omega
   have hcall:=hf l[i] (List.getElem_mem hil)
   rw [List.getElem?_eq_getElem hil,hitB]
   simp only [tZ,↓un_u,simprocAttr,hg,Int.toNat_natCast,qe hil]
   refine ⟨by omega,C2.one (by first | trivial | omega) (C1.im hcall rfl rfl ?_)⟩
   refine sW ?_
   exact .oA [] []
  ·have hg:decide ((i:Int) < (l.length:Int)) = false:=by simp;omega
   rw [List.getElem?_eq_none (by omega),hitB]
   simp only [tZ,↓un_u,simprocAttr,hg]
   refine ⟨fun h=>by omega,fun h=>by omega,C2.no (by omega) ?_⟩
   simp only [tZ,↓un_u,simprocAttr,hg,WE,not_false_eq_true]
   exact .oA [] []
theorem YI (r:List Int) (k:Int) (hr:0 < r.length):Spc Tryz.prog jU [vIs r,vI k] [] (vI (IntKind.i64.wrap (hd r - k))) []:=by
 have hg:=zu hr
 refine qd WU mixm (by simp) fun e _ hst=>qj ?_
 unfold wn
 simp only [tZ,↓un_u,simprocAttr,hg,tD]
 refine ⟨by omega,?_⟩
 exact .oA [] []
def plcN (l:List (List Int)) (id:Int):Nat:=bsN (fun y=>decide (IntKind.i64.wrap (hd y - id) < 0)) l (l.length + 1) 0 l.length
end Go.Proofs
namespace Go.Proofs
open Go Go.TL
open Go.TL.So
theorem zp4 (n:Int):Spc Tryz.prog kR [vI n] [] (vB false) []:=by
 refine qd YG mixm (by simp) fun e _ hst=>qj ?_
 unfold wY
 simp only [tZ,↓un_u,simprocAttr,bne_self_eq_false]
 exact .oA [] []
theorem qk1 (a b:Int):Spc Tryz.prog Qn [vI a,vI b] [] (vB (ltI a b)) []:=by
 refine qd qe0 mixm (by simp) fun e _ hst=>qj ?_
 unfold yP
 refine sW ?_
 refine C1.im (zp4 a) (by rfl) (by rfl) ?_
 refine sW ?_
 refine C2.no (by simp) ?_
 refine sW ?_
 exact .oA [] []
end Go.Proofs
namespace Go.Proofs
open Go Go.TL
set_option maxRecDepth 4000
set_option maxHeartbeats 8000000
def idOk (n:Int):Prop:=-9223372036854775808≤n∧n < 9223372036854775808
structure RwId (l:List (List Int)):Prop where
 asc:AscR l
 pos:∀ r∈l,0 < r.length
 ids:∀ r∈l,1≤hd r∧hd r≤1048575
 len:l.length≤1000
theorem qT9 {a k:Int} (ha:1≤a∧a≤1048575) (hk:idOk k):(IntKind.i64.wrap (a - k) = 0↔a = k)∧(1≤k→k≤1048575→IntKind.i64.wrap (a - k) = a - k):=by
 unfold idOk at hk
 constructor
 ·rw [IntKind.wrap_i64];omega
 ·intro h1 h2
  exact IntWalk.i64_in _ (by omega)
theorem qt7 {l:List (List Int)} {k:Int} (h:RwId l) (hk:1≤k∧k≤1048575):plcN l k = fndN l k:=by
 have hw:∀ r∈l,IntKind.i64.wrap (hd r - k) = hd r - k:=fun r hr=>(qT9 (h.ids r hr) ⟨by omega,by omega⟩).2 hk.1 hk.2
 have hp:=List.pairwise_iff_getElem.1 h.asc
 unfold plcN
 rw [qt6 (fun i j hi hj hij e=>?_) _ 0 l.length (by omega) (by omega) (Nat.le_refl _) (fun m _ h2=>by omega) (fun m _ h2=>by omega)]
 ·unfold fndN
  have e:∀ {a b:List Int→Bool} {m:List (List Int)},(∀ y∈m,a y = b y)→m.findIdx a = m.findIdx b:=by
   intro a b m
   induction m with
   | nil=>intro _;rfl
   | cons x m ih=>
     intro h
     rw [List.findIdx_cons,List.findIdx_cons,h x (by simp),ih fun y hy=>h y (List.mem_cons_of_mem _ hy)]
  refine e fun y hy=>?_
  rw [hw y hy]
  unfold cmpK
  by_cases c:hd y - k < 0
  ·rw [decide_eq_true c,if_pos (by omega)];rfl
  ·rw [decide_eq_false c,if_neg (by omega)]
   split <;> rfl
 ·have h1:=hp i j hi hj hij
  rw [hw _ (List.getElem_mem hj)] at e
  rw [hw _ (List.getElem_mem hi)]
  have:=of_decide_eq_true e
  exact decide_eq_true (by omega)
theorem qt8 {l:List (List Int)} {k:Int} (h:∀ r∈l,1≤hd r∧hd r≤1048575) (hk:hasK l k = true):1≤k∧k≤1048575:=by
 obtain ⟨r,hr,e⟩:=List.any_eq_true.1 hk
 have:=h r hr
 have e:hd r = k:=by simpa using e
 omega
theorem zI3 {l:List (List Int)} {k:Int} (h:RwId l) (hk:idOk k):hitB (fun y=>IntKind.i64.wrap (hd y - k)) l[plcN l k]? = hasK l k:=by
 have hq:∀ y,l[plcN l k]? = some y→(IntKind.i64.wrap (hd y - k) == 0) = (hd y == k):=fun y hy=>by
  have:=(qT9 (h.ids y (List.mem_of_getElem? hy)) hk).1
  rw [Bool.eq_iff_iff,beq_iff_eq,beq_iff_eq]
  exact this
 cases hh:hasK l k with
 | true=>
   have hr:=qt8 h.ids hh
   have hf:=qt7 h hr
   obtain ⟨hj,e⟩:=JC h.asc hh
   rw [← hf] at hj
   rw [List.getElem?_eq_getElem hj]
   have h2:=hq _ (List.getElem?_eq_getElem hj)
   dsimp only [hitB]
   rw [h2]
   have:=List.find?_some e
   simp only [← hf,beq_iff_eq] at this
   rw [this]
   simp
 | false=>
   cases e:l[plcN l k]? with
   | none=>rfl
   | some y=>
     dsimp only [hitB]
     rw [hq y e]
     have:=List.any_eq_false.1 hh y (List.mem_of_getElem? e)
     simpa using this
theorem Kh (s:Src) (k:Int) (h:RwId s.rows) (hk:idOk k):Spc Tryz.prog ww [srcT s,vI k] [] (.tup [vI (plcN s.rows k),vB (hasK s.rows k)]) []:=by
 have hl:=h.len
 have hb:=zx4 (fun y=>IntKind.i64.wrap (hd y - k)) k jU s.rows (fun y hy=>YI y k (h.pos y hy)) (by omega)
 have e:=zI3 h hk
 unfold plcN at e
 rw [e] at hb
 refine qd qe2 mixm (by simp) fun e _ hst=>qj ?_
 unfold yQ
 refine sW ?_
 refine C1.im hb (by rfl) (by rfl) ?_
 refine sW ?_
 exact .oA [] []
open So
theorem Qj (n:Int):Spc Tryz.prog jk [vI n] [] (vB false) []:=by
 refine qd Ky mixm (by simp) fun e _ hst=>qj ?_
 unfold kh
 simp only [tZ,↓un_u,simprocAttr,bne_self_eq_false]
 exact .oA [] []
theorem qJ2 {x y:T}:zu9 (some (.v undef)) (some x) (some y) = none:=_root_.id rfl
def insN (l:List Int) (n:Int):Nat:=l.findIdx fun y=>decide (n≤y)
theorem jQ (l:List Int) (n:Int) (h:l.Pairwise fun a b=>a < b) (hl:l.length < 4611686018427387904):Spc Tryz.prog zj [vIs l,vI n] [] (.tup [vI (insN l n),vB (l.contains n)]) []:=by
 have hp:=List.pairwise_iff_getElem.1 h
 refine qd Qa mixm (by simp) fun e _ hst=>qj ?_
 unfold zG
 refine sW ?_
 refine qy mixm (α:=Nat×Nat) [7,8] (fun p=>p.1≤p.2∧p.2≤l.length∧(∀ (m:Nat) (h:m < l.length),m < p.1→l[m] < n)∧(∀ (m:Nat) (h:m < l.length),p.2≤m→¬ l[m] < n)) (fun p=>[(7,vI p.1),(8,vI p.2)]) (fun p=>[]) (fun p=>p.2 - p.1) (0,l.length) ?_ ?_ fun p hp=>?_
 ·exact ⟨by simp,by simp,fun m h h2=>absurd h2 (by simp),fun m h h2=>absurd h2 (by simp only;omega)⟩
 ·exact .oA [] []
 obtain ⟨i,j⟩:=p
 obtain ⟨h1,h2,h3,h4⟩:=hp
 dsimp only at h1 h2 h3 h4
 simp only [tZ,↓un_u,simprocAttr,decide_eq_true_eq,decide_eq_false_iff_not]
 refine ⟨fun h5=>?_,fun h5=>?_⟩
 ·have hij:i < j:=by omega
  obtain ⟨h,hh,hhi,hhj⟩:∃ h:Nat,h = (i + j) / 2∧i≤h∧h < j:=⟨(i + j) / 2,rfl,by omega,by omega⟩
  have hw1:IntKind.i64.wrap ((i:Int) + (j:Int)) = ((i + j:Nat):Int):=by rw [IntWalk.i64_in _ (by omega)];omega
  have hw2:IntKind.u64.wrap ((i + j:Nat):Int) = ((i + j:Nat):Int):=IntWalk.u64_in _ (by omega)
  have hw3:shrI .u64 ((i + j:Nat):Int) 1 = (h:Int):=by
   simp only [shrI]
   rw [show (min (1:Int).toNat IntKind.u64.bits) = 1 from rfl,Int.fdiv_eq_ediv_of_nonneg _ (by decide)]
   omega
  have hw4:IntKind.i64.wrap (h:Int) = (h:Int):=IntWalk.i64_in _ (by omega)
  have hlt:h < l.length:=by omega
  have hws:=qh (i:=h) (by omega)
  have hcall:=qk1 l[h] n
  simp only [tZ,↓un_u,simprocAttr,hw1,hw2,hw3,hw4,Int.toNat_natCast,qe hlt]
  refine ⟨by omega,?_⟩
  refine C1.im hcall (by rfl) (by rfl) ?_
  simp only [tZ,↓un_u,simprocAttr,decide_eq_true_eq,decide_eq_false_iff_not,hws,ltI]
  refine ⟨fun h6=>?_,fun h6=>?_⟩
  ·refine ⟨(h + 1,j),⟨by simp only;omega,h2,fun m hm1 hm2=>?_,h4⟩,by simp only;omega,?_⟩
   ·by_cases hmh:m = h
    ·subst hmh;exact h6
    ·have:=hp m h hm1 hlt (by simp only at hm2;omega);omega
   ·exact .oA [] []
  ·refine ⟨(i,h),⟨by simp only;omega,by simp only;omega,h3,fun m hm1 hm2 hm3=>?_⟩,by simp only;omega,?_⟩
   ·by_cases hmh:m = h
    ·subst hmh;exact h6 hm3
    ·have:=hp h m hlt hm1 (by simp only at hm2;omega);omega
   ·exact .oA [] []
 ·have hij:i = j:=by omega
  subst hij
  have hfi:insN l n = i:=by
   unfold insN
   by_cases hil:i < l.length
   ·refine kv hil ?_ (by have:=h4 i hil (Nat.le_refl _);simp;omega)
    rw [List.any_eq_false]
    intro y hy
    obtain ⟨m,hm1,rfl⟩:=List.getElem_of_mem hy
    rw [List.length_take] at hm1
    rw [List.getElem_take]
    have:=h3 m (by omega) (by omega)
    simp;omega
   ·have:i = l.length:=by omega
    subst this
    rw [List.findIdx_eq_length]
    intro y hy
    obtain ⟨m,hm1,rfl⟩:=List.getElem_of_mem hy
    have:=h3 m hm1 hm1
    simp;omega
  rw [hfi]
  by_cases hil:i < l.length
  ·have hg:decide ((i:Int) < (l.length:Int)) = true:=by simp;omega
   have hct:l.contains n = (l[i] == n):=by
    rw [Bool.eq_iff_iff,List.contains_iff_mem,beq_iff_eq]
    constructor
    ·intro hm
     obtain ⟨m,hm1,rfl⟩:=List.getElem_of_mem hm
     by_cases c1:m < i
     ·have:=h3 m hm1 c1;omega
     ·by_cases c2:i < m
      ·have:=hp i m hil hm1 c2
       have:=h4 i hil (Nat.le_refl _)
       omega
      ·have:i = m:=by omega
       subst this;rfl
    ·intro e;rw [← e];exact List.getElem_mem hil
   rw [hct]
   have hnn:=Qj l[i]
   simp only [tZ,↓un_u,simprocAttr,hg,Int.toNat_natCast,qe hil]
   refine ⟨fun _=>by omega,fun _=>by omega,?_⟩
   refine C2.im (fun _=>hnn) (fun _=>rfl) (by rfl) ?_
   refine sW ?_
   refine C2.im (fun _=>Qj n) (fun _=>rfl) (by rfl) ?_
   refine sW ?_
   exact .oA [] []
  ·have hg:decide ((i:Int) < (l.length:Int)) = false:=by simp;omega
   have hct:l.contains n = false:=by
    cases e:l.contains n with
    | false=>rfl
    | true=>
      obtain ⟨m,hm1,rfl⟩:=List.getElem_of_mem (List.contains_iff_mem.1 e)
      have:=h3 m hm1 (by omega)
      omega
   rw [hct]
   have hj:(l.map vI).getD i T.junk = T.junk:=by rw [List.getD_eq_getElem?_getD,List.getElem?_eq_none (by rw [List.length_map];omega)];rfl
   simp only [tZ,↓un_u,simprocAttr,hg,Int.toNat_natCast,hj]
   refine ⟨fun h=>by omega,by omega,?_⟩
   simp only [tZ,↓un_u,simprocAttr,hg,qx5]
   refine C2.no (fun h=>h) ?_
   simp only [tZ,↓un_u,simprocAttr,hg,qx5]
   refine C2.no (fun h=>h) ?_
   simp only [tZ,↓un_u,simprocAttr,hg,qx5,qJ2,WE,not_false_eq_true,true_and]
   exact .oA [] []
end Go.Proofs
namespace Go.Proofs
open Go Go.TL
set_option maxRecDepth 4000
set_option maxHeartbeats 8000000
theorem qg2 {s:Src} (h:SrcOk s→False):srcB s = false:=by
 cases e:srcB s with
 | false=>rfl
 | true=>exact (h (WX.1 e)).elim
theorem Ki (s:Src) (hn:s.sch.cols.length < 4611686018427387904) (hl:s.sch.lists.length < 4611686018427387904) (hr:∀ r∈s.rows,r.length < 4611686018427387904):Spc Tryz.prog wu [srcT s] [] (vB (srcB s)) []:=by
 have hC:=Kg s.sch hn hl
 refine qd qd0 mixm (by simp) fun e _ hst=>qj ?_
 unfold yJ
 refine sW ?_
 refine C1.im hC (by rfl) (by rfl) ?_
 simp only [tZ,↓un_u,simprocAttr,tD,bne_iff_ne,bne_eq_false_iff_eq]
 refine ⟨fun h=>?_,fun h=>?_⟩
 ·rw [qg2 fun k=>by have h1:=k.sch;have h2:=k.nr;have h3:=k.ng;have h4:=k.ver;omega]
  exact .oA [] []
 refine qy mixm (α:=Nat) [38] (fun i=>i≤s.gone.length∧∀ j,j < i→(1≤s.gone.getD j 0∧s.gone.getD j 0≤1048575)∧asc2 s.gone j = true) (fun i=>[(38,vI i)]) (fun i=>[(4096,.arr 5 [srcT s] false)]) (fun i=>s.gone.length - i) 0 ⟨by omega,fun j h=>by omega⟩ ?_ fun i hi=>?_
 ·exact .oA [(4096,some 4096)] []
 obtain ⟨i1,i2⟩:=hi
 refine sD ?_
 refine ⟨fun h2=>?_,fun h2=>?_⟩
 ·have hi2:i < s.gone.length:=by omega
  have hwi:=qh (i:=i) (by omega)
  have hg:s.gone.getD i 0 = s.gone[i]:=qo hi2
  obtain ⟨k,hk1,hk2,hk3⟩:∃ k:Nat,(IntKind.i64.wrap ((i:Int) - 1)).toNat = k∧k < s.gone.length∧(i = 0∧k = 0∨0 < i∧k + 1 = i∧IntKind.i64.wrap ((i:Int) - 1) = k):=by
   rcases Nat.eq_zero_or_pos i with h0 | h0
   ·subst h0
    exact ⟨0,by decide,hi2,.inl ⟨rfl,rfl⟩⟩
   ·have e:=jR h0 (show i < 4611686018427387904 by omega)
    exact ⟨i - 1,by rw [e];omega,by omega,.inr ⟨h0,by omega,e⟩⟩
  have hgq:s.gone.getD k 0 = s.gone[k]:=qo hk2
  simp only [tZ,↓un_u,simprocAttr,Int.toNat_natCast,qe hi2,hk1,qe hk2,hwi,gt_iff_lt,tD]
  refine ⟨by omega,fun _=>by omega,fun h3=>?_,fun h3=>?_⟩
  ·rw [qg2 fun w=>by
    have h4:=w.gone _ (List.getElem_mem hi2)
    rcases hk3 with ⟨h5,_⟩ | ⟨h5,h6,_⟩
    ·omega
    ·have h7:=List.pairwise_iff_getElem.1 w.gasc k i hk2 hi2 (by omega)
     omega]
   exact .oA [] []
  ·refine ⟨i + 1,⟨by omega,fun j hj=>?_⟩,by omega,?_⟩
   ·by_cases e:j = i
    ·subst e
     rw [hg]
     refine ⟨by omega,?_⟩
     unfold asc2
     rw [Bool.or_eq_true,decide_eq_true_eq,decide_eq_true_eq]
     rcases hk3 with ⟨h5,_⟩ | ⟨h5,h6,_⟩
     ·exact .inl h5
     ·rw [hg,show j - 1 = k by omega,hgq]
      omega
    ·exact i2 j (by omega)
   ·exact .oA [(4096,some 4096)] []
 have hil:i = s.gone.length:=by omega
 subst hil
 have hgasc:s.gone.Pairwise fun a b=>a < b:=by
  refine zo9 (f:=fun x:Int=>x) fun i h0 hi=>?_
  have:=(i2 i hi).2
  unfold asc2 at this
  simp only [Bool.or_eq_true,decide_eq_true_eq] at this
  exact this.resolve_left (by omega)
 have hgin:∀ g∈s.gone,1≤g∧g≤1048575:=fun g hg=>by
  obtain ⟨j,hj,rfl⟩:=List.getElem_of_mem hg
  have:=(i2 j hj).1
  rwa [show s.gone.getD j 0 = s.gone[j] from qo hj] at this
 have h0:schE s.sch = 0:=by omega
 have hok:=jb h0
 have hnc:=hok.nc
 refine qy mixm (α:=Nat) [67] (fun i=>i≤s.rows.length∧∀ j,j < i→rowE s.sch (s.rows.getD j default) = 0∧(0 < j→hd (s.rows.getD (j - 1) default) < hd (s.rows.getD j default))∧s.gone.contains (hd (s.rows.getD j default)) = false) (fun i=>[(67,vI i)]) (fun i=>[(4096,.arr 5 [srcT s] false)]) (fun i=>s.rows.length - i) 0 ⟨by omega,fun j h=>by omega⟩ ?_ fun i hi=>?_
 ·exact .oA [(4096,some 4096)] []
 obtain ⟨j1,j2⟩:=hi
 refine sD ?_
 refine ⟨fun h2=>?_,fun h2=>?_⟩
 ·have hi2:i < s.rows.length:=by omega
  have hwi:=qh (i:=i) (by omega)
  have hg:s.rows.getD i default = s.rows[i]:=qo hi2
  have hF:=ZF s.sch h0 s.rows[i] (hr _ (List.getElem_mem hi2))
  have hB:=jQ s.gone (hd s.rows[i]) hgasc (by omega)
  simp only [tZ,↓un_u,simprocAttr,Int.toNat_natCast,qe hi2]
  refine ⟨by omega,?_⟩
  obtain ⟨k,hk1,hk2,hk3⟩:∃ k:Nat,(IntKind.i64.wrap ((i:Int) - 1)).toNat = k∧k < s.rows.length∧(i = 0∧k = 0∨0 < i∧k + 1 = i∧IntKind.i64.wrap ((i:Int) - 1) = k):=by
   rcases Nat.eq_zero_or_pos i with h0 | h0
   ·subst h0
    exact ⟨0,by decide,hi2,.inl ⟨rfl,rfl⟩⟩
   ·have e:=jR h0 (show i < 4611686018427387904 by omega)
    exact ⟨i - 1,by rw [e];omega,by omega,.inr ⟨h0,by omega,e⟩⟩
  by_cases hp:0 < s.rows[i].length
  ·have hgi:=zu hp
   have hgk:s.rows.getD k default = s.rows[k]:=qo hk2
   have hpk:0 < s.rows[k].length:=by
    rcases hk3 with ⟨rfl,rfl⟩ | ⟨h5,h6,_⟩
    ·exact hp
    ·have:=(j2 k (by omega)).1
     rw [hgk] at this
     exact jx this
   have hgi2:=zu hpk
   refine C1.im hF (by rfl) (by rfl) ?_
   simp only [tZ,↓un_u,simprocAttr,Int.toNat_natCast,hk1,qe hk2,hgi,hgi2,tD,gt_iff_lt,Bool.not_eq_true',Bool.not_eq_false',beq_iff_eq,beq_eq_false_iff_ne]
   refine ⟨fun _=>by omega,fun _=>by omega,fun _=>by omega,by kernel_rfl,fun h3=>?_,fun h3=>?_⟩
   ·rw [qg2 fun w=>by
     have h4:=w.rows _ (List.getElem_mem hi2)
     rcases hk3 with ⟨h5,_⟩ | ⟨h5,h6,_⟩
     ·omega
     ·have h7:=List.pairwise_iff_getElem.1 w.asc k i hk2 hi2 (by omega)
      omega]
    exact .oA [] []
   have hE:rowE s.sch s.rows[i] = 0:=h3.1
   refine ⟨by omega,?_⟩
   refine C1.im hB (by rfl) (by rfl) ?_
   refine sW ?_
   refine ⟨by kernel_rfl,fun h8=>?_,fun h8=>?_⟩
   ·rw [qg2 fun w=>by
     have h4:=(w.gone _ (List.contains_iff_mem.1 h8)).2.2
     have h5:=qg0.1 h4 _ (List.getElem_mem hi2)
     rw [qT7 hE] at h5
     simp at h5]
    exact .oA [] []
   ·simp only [tZ,↓un_u,simprocAttr,hwi]
    refine ⟨i + 1,⟨by omega,fun j hj=>?_⟩,by omega,?_⟩
    ·by_cases e:j = i
     ·subst e
      rw [hg]
      refine ⟨hE,fun h0=>?_,h8⟩
      rcases hk3 with ⟨h5,_⟩ | ⟨h5,h6,_⟩
      ·omega
      ·rw [show j - 1 = k by omega,hgk]
       omega
     ·exact j2 j (by omega)
    ·exact .oA [(4096,some 4096)] []
  ·have hv:(rowE s.sch s.rows[i] == 0) = false:=beq_eq_false_iff_ne.2 fun e=>hp (jx e)
   have hn:s.rows[i] = []:=List.length_eq_zero_iff.1 (by omega)
   rw [hv,hn] at hF
   rw [hn]
   refine C1.im hF (by rfl) (by rfl) ?_
   simp only [tZ,↓un_u,simprocAttr,Int.toNat_natCast,hk1,qe hk2,qx5,qJ2,WE,not_false_eq_true,true_and]
   refine ⟨by kernel_rfl,?_⟩
   rw [qg2 fun w=>hp (jx (w.rows _ (List.getElem_mem hi2)))]
   exact .oA [] []
 ·have hil:i = s.rows.length:=by omega
  subst hil
  have hk:SrcOk s:=by
   refine ⟨h0,by omega,by omega,by omega,fun r hr=>?_,?_,fun g hg=>?_,hgasc⟩
   ·obtain ⟨j,hj,rfl⟩:=List.getElem_of_mem hr
    have:=(j2 j hj).1
    rwa [show s.rows.getD j default = s.rows[j] from qo hj] at this
   ·exact zo9 (f:=hd) fun i h0 hi=>(j2 i hi).2.1 h0
   ·obtain ⟨g1,g2⟩:=hgin g hg
    refine ⟨g1,g2,qg0.2 fun r hr=>?_⟩
    obtain ⟨j,hj,rfl⟩:=List.getElem_of_mem hr
    have h4:=j2 j hj
    rw [show s.rows.getD j default = s.rows[j] from qo hj] at h4
    rw [qT7 h4.1]
    cases e:hd s.rows[j] == g with
    | false=>rfl
    | true=>
      rw [beq_iff_eq] at e
      rw [e,List.contains_iff_mem.2 hg] at h4
      cases h4.2.2
  rw [WX.2 hk]
  exact .oA [] []
end Go.Proofs
namespace Go.Proofs
open Go Go.TL
set_option maxRecDepth 4000
set_option maxHeartbeats 8000000
open So
end Go.Proofs
namespace Go.Proofs
open Go Go.TL
set_option maxRecDepth 4000
set_option maxHeartbeats 8000000
open So
def pinR (l:List (List Int)) (r:List Int):List (List Int):=if hasK l (hd r) = true then l else l.take (fndN l (hd r)) ++ r :: l.drop (fndN l (hd r))
theorem zp5 {l:List (List Int)} {k:Int} {r:List Int} (h:rowK l k = some r):hd r = k∧r∈l:=by
 have h1:=List.find?_some h
 exact ⟨by simpa using h1,List.mem_of_find?_eq_some h⟩
theorem qt9 {l:List (List Int)} {k:Int}:hasK l k = true↔∃ r∈l,hd r = k:=by
 unfold hasK
 rw [List.any_eq_true]
 simp
theorem zp6 {l:List (List Int)} {k:Int} {x:List Int} (h:x∈l.take (fndN l k)):hd x < k:=by
 obtain ⟨i,hi,rfl⟩:=List.getElem_of_mem h
 rw [List.length_take] at hi
 rw [List.getElem_take]
 have:=List.not_of_lt_findIdx (show i < fndN l k by omega)
 simp [cmpK] at this
 grind
theorem zp7 {l:List (List Int)} {k:Int} {x:List Int} (ha:AscR l) (h:x∈l.drop (fndN l k)):k≤hd x:=by
 obtain ⟨i,hi,rfl⟩:=List.getElem_of_mem h
 rw [List.length_drop] at hi
 rw [List.getElem_drop]
 have h1:fndN l k < l.length:=by omega
 have h2:=List.findIdx_getElem (p:=fun y=>decide (cmpK k y≥0)) (xs:=l) (w:=h1)
 have h3:cmpK k l[fndN l k]≥0:=of_decide_eq_true h2
 have h4:k≤hd l[fndN l k]:=by
  unfold cmpK at h3
  grind
 rcases Nat.eq_zero_or_pos i with h5 | h5
 ·subst h5
  exact h4
 ·have:=List.pairwise_iff_getElem.1 ha (fndN l k) (fndN l k + i) h1 (by omega) (by omega)
  omega
theorem zI4 {l:List (List Int)} {r:List Int} (ha:AscR l):AscR (pinR l r)∧∀ x,x∈pinR l r↔x∈l∨(x = r∧hasK l (hd r) = false):=by
 unfold pinR
 cases h:hasK l (hd r) with
 | true=>exact ⟨by rw [if_pos rfl];exact ha,fun x=>by simp⟩
 | false=>
   rw [if_neg (by simp)]
   have hlt:∀ x∈l.drop (fndN l (hd r)),hd r < hd x:=fun x hx=>by
    have h1:=zp7 ha hx
    have h2:hd x≠hd r:=fun e=>by
     rw [qt9.2 ⟨x,List.mem_of_mem_drop hx,e⟩] at h
     cases h
    omega
   have ha2:=ha
   rw [← List.take_append_drop (fndN l (hd r)) l] at ha2
   obtain ⟨p1,p2,p3⟩:=List.pairwise_append.1 ha2
   refine ⟨List.pairwise_append.2 ⟨p1,List.pairwise_cons.2 ⟨fun x hx=>hlt x hx,p2⟩,fun x hx y hy=>?_⟩,fun x=>?_⟩
   ·rcases List.mem_cons.1 hy with rfl | hy
    ·exact zp6 hx
    ·exact p3 x hx y hy
   ·have:=List.mem_append (s:=l.take (fndN l (hd r))) (t:=l.drop (fndN l (hd r))) (a:=x)
    rw [List.take_append_drop] at this
    rw [List.mem_append,List.mem_cons,this]
    simp
    grind
end Go.Proofs
namespace Go.Proofs
open Go Go.TL
set_option maxRecDepth 4000
set_option maxHeartbeats 8000000
open So
theorem JZ (l:List (List Int)) (x:(List Int)) (i:Nat) (hi:i≤l.length) (hl:l.length < 1000000000000) :
 Spc Tryz.prog jH [.vw 0 l.length 0 l.length,vI i,.sl 1 [vIs x]] [(0,.arr 1 (l.map vIs) false)] (.asl 1 (l.length + 1)) [(0,.dead),(1,.arr 1 ((l.take i ++ x :: l.drop i).map vIs) false)]:=by
 refine we [7,8,10] Jv mixm (by simp) fun e _ hst=>qj ?_
 unfold jv
 simp only [QM,List.contains_cons,List.contains_nil,Nat.reduceBEq,Bool.or_false,Bool.or_true,Bool.true_or,Bool.false_or,cond_true,cond_false]
 simp only [tl,tl2,tl4,↓un_u,qQ,entX,kz,ret,retI,retB,intT,unT,endR,wz,resR,tupT,bslR,boxR,jj,↓reduceIte,Nat.reduceEqDiff,Nat.reduceAdd,Nat.reduceMul,Nat.reduceLT,Nat.reduceLeDiff,reduceCtorEq,Int.reduceLE,Int.reduceLT,ne_eq,Int.reduceEq,not_false_eq_true,decide_true,decide_false,Int.reduceToNat,tl3,Int.reduceBNe,Int.reduceBEq,rmK,rm1,not_true_eq_false,List.drop_zero,List.take_of_length_le (show (l.map vIs).length≤l.length by simp),show (((1:Nat):Int) == 0) = false from rfl]
 have e1:(i:Int).toNat = i:=Int.toNat_natCast _
 refine ⟨by omega,fun h=>?_,fun h=>?_⟩
 ·have h2:i = l.length:=by have:=beq_iff_eq.1 h;omega
  subst h2
  refine W_le _ _ (Le.cut 0 5 l.length (by rfl) (by rfl) (by simp)) ?_
  simp only [zb4,yi,cut2,cut1,cut0]
  simp only [tl,tl2,tl4,↓un_u,qQ,entX,kz,ret,retI,retB,intT,unT,endR,wz,resR,tupT,bslR,boxR,jj,↓reduceIte,Nat.reduceEqDiff,Nat.reduceAdd,Nat.reduceMul,Nat.reduceLT,Nat.reduceLeDiff,reduceCtorEq,Int.reduceLE,Int.reduceLT,ne_eq,Int.reduceEq,not_false_eq_true,decide_true,decide_false,Int.reduceToNat,tl3,Int.reduceBNe,Int.reduceBEq,rmK,rm1,not_true_eq_false,List.length_map,List.take_of_length_le (show (l.map vIs).length≤l.length by simp)]
  refine ⟨by omega,?_⟩
  refine .of [(0,some 0),(1,some 5)] [] rfl (by first | rfl | (rw [hst];rfl)) ?_ ?_
  all_goals (try simp only [jy,ltO2,ltO1,ltAs,ltA,ltC,ltC0,Zc,ltCs,ltT,ltFr,ltS,wrOk,wrO,TL.get,KX,↓reduceIte,Nat.reduceEqDiff,reduceCtorEq,Option.getD_some,Option.isSome_some,List.length_map,List.length_append,List.length_cons,List.length_nil,List.append_nil,List.mem_singleton,List.mem_cons,List.not_mem_nil,and_true,true_and,and_self,imp_self,forall_const,false_implies,implies_true,true_implies,or_false,Bool.false_eq_true,Bool.true_eq_false,kJ,true_or,or_true,false_or,false_and,and_false,rmK,rm1,List.map_append,List.map_cons,List.map_nil,List.cons_append,List.nil_append,List.take_length,List.drop_length])
  all_goals (try (repeat' (first | exact qT | (apply zh;intro _;exact ⟨rfl,rfl⟩) | (apply qt;intro _;exact ⟨rfl,rfl⟩) | with_reducible apply qS | with_reducible refine qW ⟨rfl,rfl⟩ ?_ | exact zi | with_reducible apply qJ | with_reducible refine qD ⟨rfl,rfl,?_⟩ ?_ | with_reducible apply And.intro | exact qK rfl | exact qK (by assumption) | (refine ⟨⟨?_,rfl,?_,rfl,?_⟩,trivial⟩ <;> first | (simp;done) | (apply qt;intro _;exact ⟨rfl,rfl⟩)) | trivial | rfl | (rw [qh (by omega)]) | omega)))
 have h2:i < l.length:=by have:=beq_eq_false_iff_ne.1 h;omega
 refine zJ8 0 (by rfl) (by rfl) fun c hc1 hc2=>?_
 simp only [qG2,KV,zc7]
 rw [List.length_map] at hc1
 have hw:IntKind.i64.wrap ((l.length:Int) + ((1:Nat):Int)) = ((l.length + 1:Nat):Int):=by rw [IntWalk.i64_in _ (by omega)];omega
 have hw2:IntKind.i64.wrap (((l.length + 1:Nat):Int) - (i:Int)) = ((l.length + 1 - i:Nat):Int):=by rw [IntWalk.i64_in _ (by omega)];omega
 have hw3:IntKind.i64.wrap ((i:Int) + ((1:Nat):Int)) = ((i + 1:Nat):Int):=by rw [IntWalk.i64_in _ (by omega)];omega
 have e2:((l.length + 1:Nat):Int).toNat = l.length + 1:=Int.toNat_natCast _
 have e3:((i + 1:Nat):Int).toNat = i + 1:=Int.toNat_natCast _
 have e4:((l.length + 1 - i:Nat):Int).toNat = l.length + 1 - i:=Int.toNat_natCast _
 have e5:((c:Nat):Int).toNat = c:=Int.toNat_natCast _
 obtain ⟨J,hJ⟩:∃ J,J = List.replicate (c - l.length) (Yr 1):=⟨_,rfl⟩
 have hJl:J.length = c - l.length:=by rw [hJ,List.length_replicate]
 simp only [List.length_map,← hJ]
 simp only [tl,tl2,tl4,↓un_u,qQ,entX,kz,ret,retI,retB,intT,unT,endR,wz,resR,tupT,bslR,boxR,jj,↓reduceIte,Nat.reduceEqDiff,Nat.reduceAdd,Nat.reduceMul,Nat.reduceLT,Nat.reduceLeDiff,reduceCtorEq,Int.reduceLE,Int.reduceLT,ne_eq,Int.reduceEq,not_false_eq_true,decide_true,decide_false,Int.reduceToNat,tl3,Int.reduceBNe,Int.reduceBEq,rmK,rm1,not_true_eq_false,List.length_map,e1,e2,e3,e4,e5,hw,hw2,hw3,hJl,Nat.sub_zero,Nat.zero_add,List.drop_zero,decide_eq_true_eq,decide_eq_false_iff_not]
 refine ⟨by omega,fun h3=>⟨by omega,by omega,?_⟩,fun h3=>⟨by omega,?_⟩⟩
 ·have h4:c = l.length:=by omega
  subst h4
  have hJ0:J = []:=List.eq_nil_of_length_eq_zero (by rw [hJl];omega)
  clear hJ
  subst hJ0
  have e6:i + (l.length + 1 - i) = l.length + 1:=by omega
  simp only [List.append_nil,← List.map_take,e6]
  have hz:∀ m,ImXs 1 (List.replicate m (.v (.slice none 0 0))):=fun m y hy=>by rw [(List.mem_replicate.1 hy).2];exact ⟨rfl,rfl⟩
  refine W_le [(0,.vw 0 l.length 0 l.length),(1,vI i),(2,.sl 1 [vIs x]),(7,vI (1:Nat)),(9,.vw 40992 (l.length + 1) 0 (l.length + 1))] [(0,.arr 1 (l.map vIs) false),(40992,.arr 1 ((l.take i).map vIs ++ List.replicate (l.length + 1 - i) (.v (.slice none 0 0))) false)] ?_ ?_
  ·refine .of [(0,some 0),(40992,some 40992)] [] rfl (by first | rfl | (rw [hst];rfl)) ?_ ?_
   all_goals (try simp only [jy,ltO2,ltO1,ltAs,ltA,ltC,ltC0,Zc,ltCs,ltT,ltFr,ltS,wrOk,wrO,TL.get,KX,↓reduceIte,Nat.reduceEqDiff,reduceCtorEq,Option.getD_some,Option.isSome_some,List.length_map,List.length_append,List.length_cons,List.length_nil,List.append_nil,List.mem_singleton,List.mem_cons,List.not_mem_nil,and_true,true_and,and_self,imp_self,forall_const,false_implies,implies_true,true_implies,or_false,Bool.false_eq_true,Bool.true_eq_false,kJ,true_or,or_true,false_or,false_and,and_false,rmK,rm1,List.map_append,List.map_cons,List.map_nil,List.cons_append,List.nil_append])
   all_goals (try (repeat' (first | exact qT | (apply zh;intro _;exact ⟨rfl,rfl⟩) | (apply qt;intro _;exact ⟨rfl,rfl⟩) | with_reducible apply qS | with_reducible refine qW ⟨rfl,rfl⟩ ?_ | exact zi | with_reducible apply qJ | with_reducible refine qD ⟨rfl,rfl,?_⟩ ?_ | with_reducible apply And.intro | exact qK rfl | exact qK (by assumption) | (refine ⟨⟨?_,rfl,?_,rfl,?_⟩,trivial⟩ <;> first | (simp;done) | (apply qt;intro _;exact ⟨rfl,rfl⟩)) | trivial | rfl | (rw [qh (by omega)]) | omega)))
   exact zL (hz _)
  have k1:min 1 (l.length + 1 - i) = 1:=by omega
  have k2:min i l.length = i:=by omega
  have k3:min (l.length - i) (l.length + 1 - (i + 1)) = l.length - i:=by omega
  have k4:(1:Nat) + (l.length + 1 - i - 1) = l.length + 1 - i:=by omega
  simp only [tl,tl2,tl4,↓un_u,qQ,entX,kz,ret,retI,retB,intT,unT,endR,wz,resR,tupT,bslR,boxR,jj,↓reduceIte,Nat.reduceEqDiff,Nat.reduceAdd,Nat.reduceMul,Nat.reduceLT,Nat.reduceLeDiff,reduceCtorEq,Int.reduceLE,Int.reduceLT,ne_eq,Int.reduceEq,not_false_eq_true,decide_true,decide_false,Int.reduceToNat,tl3,Int.reduceBNe,Int.reduceBEq,rmK,rm1,not_true_eq_false,List.length_map,List.length_append,List.length_replicate,List.length_take,List.length_drop,e1,e2,e3,e4,e5,hw,hw2,hw3,Nat.sub_zero,Nat.zero_add,List.drop_zero,k1,k2,k3,Nat.min_self,e6]
  refine ⟨by omega,by omega,by omega,by omega,by omega,by kernel_rfl,?_⟩
  rw [qR9 (l.map vIs) ((l.take i).map vIs) (List.replicate (l.length + 1 - i) (.v (.slice none 0 0))) (vIs x) i l.length (by simp) (by simp;omega) (by simp) h2]
  refine .cutv 1 rfl ?_ rfl ?_ ?_
  ·simp only [List.length_append,List.length_drop,List.length_map,List.length_cons,List.length_take];omega
  ·simp only [List.length_append,List.length_drop,List.length_map,List.length_cons,List.length_take];omega
  simp only [yi]
  rw [List.take_of_length_le (by simp only [List.length_append,List.length_drop,List.length_map,List.length_cons,List.length_take];omega)]
  simp only [List.map_append,List.map_cons,List.map_drop]
  refine .of [(0,some 0),(1,some 1)] [] rfl (by first | rfl | (rw [hst];rfl)) ?_ ?_
  all_goals (try simp only [jy,ltO2,ltO1,ltAs,ltA,ltC,ltC0,Zc,ltCs,ltT,ltFr,ltS,wrOk,wrO,TL.get,KX,↓reduceIte,Nat.reduceEqDiff,reduceCtorEq,Option.getD_some,Option.isSome_some,List.length_map,List.length_append,List.length_cons,List.length_nil,List.append_nil,List.mem_singleton,List.mem_cons,List.not_mem_nil,and_true,true_and,and_self,imp_self,forall_const,false_implies,implies_true,true_implies,or_false,Bool.false_eq_true,Bool.true_eq_false,kJ,true_or,or_true,false_or,false_and,and_false,rmK,rm1,List.map_append,List.map_cons,List.map_nil,List.cons_append,List.nil_append])
  all_goals (try (repeat' (first | exact qT | (apply zh;intro _;exact ⟨rfl,rfl⟩) | (apply qt;intro _;exact ⟨rfl,rfl⟩) | with_reducible apply qS | with_reducible refine qW ⟨rfl,rfl⟩ ?_ | exact zi | with_reducible apply qJ | with_reducible refine qD ⟨rfl,rfl,?_⟩ ?_ | with_reducible apply And.intro | exact qK rfl | exact qK (by assumption) | (refine ⟨⟨?_,rfl,?_,rfl,?_⟩,trivial⟩ <;> first | (simp;done) | (apply qt;intro _;exact ⟨rfl,rfl⟩)) | trivial | rfl | (rw [qh (by omega)]) | omega)))
  all_goals (simp only [← List.map_drop,← List.map_take];apply zh;intro _;exact ⟨rfl,rfl⟩)
 refine ⟨by omega,?_⟩
 refine C1.ovl QU (by decide) rfl rfl (by rw [List.length_append,List.length_map,hJl];omega) ?_
 have k1:min 1 (l.length + 1 - i) = 1:=by omega
 have k2:l.length + (c - l.length) = c:=by omega
 have k3:min (min (l.length + 1 - i) (c - i)) (l.length + 1 - (i + 1)) = l.length - i:=by omega
 have k4:min (i + 1) c = i + 1:=by omega
 simp only [tl,tl2,tl4,↓un_u,qQ,entX,kz,ret,retI,retB,intT,unT,endR,wz,resR,tupT,bslR,boxR,jj,↓reduceIte,Nat.reduceEqDiff,Nat.reduceAdd,Nat.reduceMul,Nat.reduceLT,Nat.reduceLeDiff,reduceCtorEq,Int.reduceLE,Int.reduceLT,ne_eq,Int.reduceEq,not_false_eq_true,decide_true,decide_false,Int.reduceToNat,tl3,Int.reduceBNe,Int.reduceBEq,rmK,rm1,not_true_eq_false,List.length_map,List.length_append,List.length_take,List.length_drop,hJl,e1,e2,e3,e4,e5,hw,hw2,hw3,Nat.sub_zero,Nat.zero_add,List.drop_zero,k1,k2,k3,k4,Nat.min_self]
 refine ⟨by omega,by omega,by omega,by kernel_rfl,by omega,by omega,?_⟩
 rw [qR8 (l.map vIs) J (vIs x) i l.length (by simp) h2]
 have hfl:(List.take i (List.map vIs l) ++ vIs x :: List.drop i (List.map vIs l)).length = l.length + 1:=by
  simp only [List.length_append,List.length_drop,List.length_map,List.length_cons,List.length_take];omega
 refine .cutv 1 rfl ?_ rfl ?_ ?_
 ·rw [List.length_append,hfl,List.length_drop,hJl];omega
 ·rw [List.length_append,hfl,List.length_drop,hJl];omega
 simp only [yi]
 rw [List.take_append_of_le_length (by rw [hfl];exact Nat.le_refl _),List.take_of_length_le (by rw [hfl];exact Nat.le_refl _)]
 simp only [List.map_append,List.map_cons,List.map_drop,List.map_take]
 refine .of [(0,some 0),(1,some 1)] [] rfl (by first | rfl | (rw [hst];rfl)) ?_ ?_
 all_goals (try simp only [jy,ltO2,ltO1,ltAs,ltA,ltC,ltC0,Zc,ltCs,ltT,ltFr,ltS,wrOk,wrO,TL.get,KX,↓reduceIte,Nat.reduceEqDiff,reduceCtorEq,Option.getD_some,Option.isSome_some,List.length_map,List.length_append,List.length_cons,List.length_nil,List.append_nil,List.mem_singleton,List.mem_cons,List.not_mem_nil,and_true,true_and,and_self,imp_self,forall_const,false_implies,implies_true,true_implies,or_false,Bool.false_eq_true,Bool.true_eq_false,kJ,true_or,or_true,false_or,false_and,and_false,rmK,rm1,List.map_append,List.map_cons,List.map_nil,List.cons_append,List.nil_append])
 all_goals (try (repeat' (first | exact qT | (apply zh;intro _;exact ⟨rfl,rfl⟩) | (apply qt;intro _;exact ⟨rfl,rfl⟩) | with_reducible apply qS | with_reducible refine qW ⟨rfl,rfl⟩ ?_ | exact zi | with_reducible apply qJ | with_reducible refine qD ⟨rfl,rfl,?_⟩ ?_ | with_reducible apply And.intro | exact qK rfl | exact qK (by assumption) | (refine ⟨⟨?_,rfl,?_,rfl,?_⟩,trivial⟩ <;> first | (simp;done) | (apply qt;intro _;exact ⟨rfl,rfl⟩)) | trivial | rfl | (rw [qh (by omega)]) | omega)))
 all_goals (simp only [← List.map_drop,← List.map_take];apply zh;intro _;exact ⟨rfl,rfl⟩)
end Go.Proofs
namespace Go.Proofs
open Go Go.TL
set_option maxRecDepth 4000
section
variable {P:Program} {st:Sto} {e:Env} {kss:List (Nat×List Nat)} {Q:Ex→St→Prop} {K:List KF} {rows:Option (List Nat)} {ks:List Nat} {nid:Nat} {ops:List ROp} {F:XF} {acc:Acc}
theorem C1.cutbackF {fid:FuncId} {caps xs ts':List T} {d:Option Nat} {ys zs bs:List T} {m kj:Nat} {fz:Bool} (id nid' k j:Nat) (hs:Spc P fid ts' [(0,.arr k zs false)] (.asl 1 m) [(0,.dead),(1,.arr k ys false)]) (hg:TL.get st id = some (.arr k zs false)) (hj:TL.get st j = some (.arr kj bs fz)) (hz:ImXs k zs) (hy:ImXs k ys)
 (hn:TL.get st nid' = none) (hne2:id≠j) (ha:ltAs st [(0,some id)] [j] (xs ++ caps) ts')
 (h:R P e kss Q rows ks K nid ops (putX F d (.p (.asl nid' m))) (stUp st [(id,.dead),(nid',.arr k ys false),(j,.arr kj bs true)]) (acc ++ [([j] ++ [id,nid',j],[id,nid',j])])):C1 P e kss Q rows ks K (.clo fid caps) xs d nid ops F st acc:=by
 have hne:id≠nid':=fun e=>by subst e;rw [hg] at hn;cases hn
 have hne3:nid'≠j:=fun e=>by subst e;rw [hj] at hn;cases hn
 refine C1.of [(0,some id)] [(nid',some 1)] [j] [(id,.dead),(nid',.arr k ys false),(j,.arr kj bs true)] hs ha (by simp [jY,TL.get]) ?_ (by simp;exact fun e=>hne2 e.symm) (by simp [TL.get]) ?_ ?_ (by rfl) ?_ (.inl ?_) h
 ·refine ⟨?_,trivial⟩
  simp only [TL.get,if_true,ltO2,hg,ltO1]
  refine ⟨trivial,by simp,zL hz,fun hb=>?_⟩
  simp at hb
  exact absurd hb hne2
 ·refine ⟨?_,?_,trivial⟩
  ·simp only [TL.get,if_true,wrO,ltO1,Nat.reduceEqDiff,↓reduceIte,reduceCtorEq]
   exact ⟨⟨trivial,by simp,zL hy,by simp⟩,.inl hn⟩
  ·rw [show TL.get [(nid',some 1)] j = none by simp [TL.get,hne3]]
   refine ⟨rfl,?_,?_⟩
   ·rw [hj];exact ⟨rfl,rfl⟩
   ·intro p hp
    simp at hp
    subst hp
    simp
    exact hne2
 ·simp [jY,TL.get,hne]
 ·exact ⟨by simp [TL.get],rfl⟩
 ·simp [fzOk,TL.get,hne2,hne3]
theorem C1.cut0 {fid:FuncId} {caps xs ts':List T} {d:Option Nat} {ys zs:List T} {m:Nat} (id nid' k:Nat) (hs:Spc P fid ts' [(0,.arr k zs false)] (.asl 1 m) [(0,.dead),(1,.arr k ys false)]) (hg:TL.get st id = some (.arr k zs false)) (hz:ImXs k zs) (hy:ImXs k ys)
 (hn:TL.get st nid' = none) (ha:ltAs st [(0,some id)] [] (xs ++ caps) ts')
 (h:R P e kss Q rows ks K nid ops (putX F d (.p (.asl nid' m))) (stUp st [(id,.dead),(nid',.arr k ys false)]) (acc ++ [([] ++ [id,nid'],[id,nid'])])):C1 P e kss Q rows ks K (.clo fid caps) xs d nid ops F st acc:=by
 have hne:id≠nid':=fun e=>by subst e;rw [hg] at hn;cases hn
 refine C1.of [(0,some id)] [(nid',some 1)] [] [(id,.dead),(nid',.arr k ys false)] hs ha (by simp [jY,TL.get]) ?_ (by rfl) (by simp [TL.get]) ?_ ?_ (by rfl) ?_ (.inl (by rfl)) h
 ·refine ⟨?_,trivial⟩
  simp only [TL.get,if_true,ltO2,hg,ltO1]
  exact ⟨trivial,by simp,zL hz,by simp⟩
 ·refine ⟨?_,trivial⟩
  simp only [TL.get,if_true,wrO,ltO1,Nat.reduceEqDiff,↓reduceIte,reduceCtorEq]
  exact ⟨⟨trivial,by simp,zL hy,by simp⟩,.inl hn⟩
 ·simp [jY,TL.get,hne]
 ·exact ⟨by simp [TL.get],rfl⟩
end
end Go.Proofs
namespace Go.Proofs
open Go Go.TL
set_option maxRecDepth 4000
set_option maxHeartbeats 8000000
open So
end Go.Proofs
namespace Go.Proofs
open Go Go.TL
open Go.TL.So
theorem zx5 (k:UInt8):IntKind.i64.wrap (0 + IntKind.i64.wrap ((k.toNat:Nat):Int)) = (k.toNat:Int):=by
 have h:=k.toNat_lt
 rw [IntWalk.i64_in (k.toNat:Int) (by omega),IntWalk.i64_in _ (by omega)];omega
def L8 (n:Nat):Nat:=if n = 0 then 0 else Nat.log2 n + 1
theorem zO2 (n:Nat) (h:n < 256):L8 n≤8∧n < 2 ^ L8 n∧(0 < n→2 ^ L8 n≤2 * n):=by
 unfold L8
 revert n
 decide +kernel
def L16 (n:Nat):Nat:=if n < 256 then L8 n else 8 + L8 (n / 256)
theorem zO3 (n:Nat) (h:n < 65536):L16 n≤16∧n < 2 ^ L16 n∧(0 < n→2 ^ L16 n≤2 * n):=by
 unfold L16
 split
 ·rename_i h2
  obtain ⟨h3,h4,h5⟩:=zO2 n h2
  exact ⟨by omega,h4,h5⟩
 ·rename_i h2
  obtain ⟨h3,h4,h5⟩:=zO2 (n / 256) (by omega)
  rw [Nat.pow_add]
  have h6:=h5 (by omega)
  generalize 2 ^ L8 (n / 256) = p at *
  refine ⟨by omega,?_,fun _=>?_⟩ <;> omega
set_option maxRecDepth 100000 in
theorem WY (n:Nat) (h:n < 65536):Spc Tryz.prog wg [vU64 n] [] (vI (L16 n)) []:=by
 have d1:decide ((n:Int)≥4294967296) = false:=decide_eq_false (by omega)
 have d2:decide ((n:Int)≥65536) = false:=decide_eq_false (by omega)
 by_cases h8:n < 256
 ·have d3:decide ((n:Int)≥256) = false:=decide_eq_false (by omega)
  have hw:IntKind.u8.wrap (n:Int) = n:=by rw [IntKind.wrap_u8];omega
  rw [L16,if_pos h8]
  refine qd Qh mixm (by simp) fun e _ hst=>qj ?_
  unfold jl
  simp only [tZ,↓un_u,simprocAttr,d1,d2,d3,hw,Int.toNat_natCast,zx5]
  refine ⟨⟨by omega,Int.ofNat_lt.2 h8⟩,.imR (congrArg (fun k:Nat=>vI (k:Int)) ?_) rfl⟩
  clear d1 d2 d3 hw h
  unfold L8
  revert n
  decide +kernel
 ·have d3:decide ((n:Int)≥256) = true:=decide_eq_true (by omega)
  have hs:shrI .u64 (n:Int) 8 = ((n / 256:Nat):Int):=by
   simp only [shrI]
   rw [show min (8:Int).toNat IntKind.u64.bits = 8 from rfl,show (2:Int) ^ 8 = 256 from rfl,Int.fdiv_eq_ediv_of_nonneg _ (by omega)]
   omega
  have hw:IntKind.u8.wrap ((n / 256:Nat):Int) = ((n / 256:Nat):Int):=by rw [IntKind.wrap_u8];omega
  have hw2:IntKind.i64.wrap (0 + 8) = 8:=by decide
  rw [L16,if_neg h8]
  refine qd Qh mixm (by simp) fun e _ hst=>qj ?_
  unfold jl
  simp only [tZ,↓un_u,simprocAttr,d1,d2,d3,hs,hw,hw2,Int.toNat_natCast]
  have hm:n / 256 < 256:=by omega
  refine ⟨⟨by omega,Int.ofNat_lt.2 hm⟩,.imR (congrArg vI ?_) rfl⟩
  clear d1 d2 d3 hw hw2 hs h h8 hst
  generalize n / 256 = m at *
  unfold L8
  revert m
  decide +kernel
theorem qg3 (n:Nat) (h:n < 65536):∃ l:Nat,(l≤16∧n < 2 ^ l∧(0 < n→2 ^ l≤2 * n))∧Spc Tryz.prog yG [vU64 n] [] (vI l) []:=by
 have hs:=WY n h
 refine ⟨L16 n,zO3 n h,?_⟩
 refine qd Yy mixm (by simp) fun e _ hst=>qj ?_
 unfold wS
 refine sW ?_
 refine C1.im hs (by rfl) (by rfl) ?_
 refine sW ?_
 exact .imR rfl rfl
def xs1 (v:Int):Int:=xorI .u64 v (shlI .u64 v 13)
def xs2 (v:Int):Int:=xorI .u64 v (shrI .u64 v 7)
end Go.Proofs
namespace Go.Proofs
open Go Go.TL
open Go.TL.So
set_option maxHeartbeats 2000000
end Go.Proofs
namespace Go.Proofs
open Go Go.TL
set_option maxRecDepth 4000
set_option maxHeartbeats 8000000
open So
theorem KE (l:List Int) (hl:l.length * 8≤140737488355328):Spc Tryz.prog qU [vIs l] [] (.asl 0 l.length) [(0,.arr 1 (l.map vI) false)]:=by
 refine qd yM mixm (by simp) fun e _ hst=>qj ?_
 unfold zZ
 refine sW ?_
 refine ⟨fun h=>?_,?_⟩
 ·have:l = []:=by
   simpa using h
  subst this
  exact .oA [(0,none)] []
 ·refine ⟨by omega,?_⟩
  exact .oA [(0,some 16384)] []
end Go.Proofs
namespace Go.Proofs
open Go Go.TL
set_option maxRecDepth 4000
set_option maxHeartbeats 8000000
theorem KG (l:List Cod) (hl:l.length≤1000000):Spc Tryz.prog ka [.sl 2 (l.map codT)] [] (.sl 2 (l.map codT)) []:=by
 refine qd JU mixm (by simp) fun e _ hst=>qj ?_
 unfold jL
 refine sW ?_
 refine ⟨fun h=>?_,?_⟩
 ·have:l = []:=by
   simpa using h
  subst this
  exact .oA [] []
 ·refine ⟨by omega,?_⟩
  exact .oA [] [16384]
theorem JD (l:List (List Int)) (hl:l.length≤1000000) (hr:∀ r∈l,r.length≤1000000):Spc Tryz.prog kM [vRw l] [] (.asl 0 l.length) [(0,.arr 1 (l.map vIs) false)]:=by
 refine qd Yt mixm (by simp) fun e _ hst=>qj ?_
 unfold wO
 refine sW ?_
 refine qy mixm (α:=Nat) [3,8] (fun i=>i≤l.length) (fun i=>[(3,.asl 1 (l.take i).length),(8,vI i)]) (fun i=>[(1,.arr 1 ((l.take i).map vIs) false)]) (fun i=>l.length - i) 0 (by omega) ?_ fun i hi=>?_
 ·simp only [List.take_zero,List.length_nil,List.map_nil]
  exact .oA [(1,none)] []
 have hsl:(l.take i).length = i:=by rw [List.length_take];omega
 refine sD ?_
 refine ⟨fun h2=>?_,fun h2=>?_⟩
 ·have hi2:i < l.length:=by omega
  have hwi:=qh (i:=i) (by omega)
  have hcl:=kX l[i] (by have:=hr _ (List.getElem_mem hi2);omega)
  have hs:=zz hi2
  have hspl:=congrArg List.length hs
  simp only [List.length_append,List.length_cons,List.length_nil] at hspl
  simp only [tZ,↓un_u,simprocAttr,Int.toNat_natCast,qe hi2]
  refine ⟨by omega,?_⟩
  refine C1.im hcl (by rfl) (by rfl) ?_
  simp only [tZ,↓un_u,simprocAttr,hwi]
  refine ⟨by omega,i + 1,by omega,by omega,?_⟩
  rw [hs]
  exact .oA [(1,some 1)] []
 ·have hil:i = l.length:=by omega
  subst hil
  rw [List.take_length]
  exact .oA [(0,some 1)] []
theorem yc (s:Sch) (h:SchOk s):Spc Tryz.prog zO [schT s] [] (schT s) []:=by
 have hnl:=h.nl
 have hnc:=h.nc
 refine qd Jl mixm (by simp) fun e _ hst=>qj ?_
 unfold jr
 refine sW ?_
 refine qy mixm (α:=Nat) [11] (fun i=>i≤s.lists.length) (fun i=>[(11,vI i)]) (fun i=>[(4096,.arr 2 [schT s] false),(4100,.arr 2 [.agg [.v (.slice none 0 0),.v (.slice none 0 0)]] false),(8192,.arr 2 [.agg [.asl 1 (s.lists.take i).length,.v (.slice none 0 0)]] false),(1,.arr 2 ((s.lists.take i).map cdlT) false)]) (fun i=>s.lists.length - i) 0 (by omega) ?_ fun i hi=>?_
 ·simp only [List.take_zero,List.length_nil,List.map_nil]
  exact .oA [(4096,some 4096),(4100,some 4100),(8192,some 8192),(1,none)] []
 have hsl:(s.lists.take i).length = i:=by rw [List.length_take];omega
 refine sD ?_
 refine ⟨fun h2=>?_,fun h2=>?_⟩
 ·have hi2:i < s.lists.length:=by omega
  have hwi:=qh (i:=i) (by omega)
  have hEl:=h.ls i hi2
  rw [show s.lists.getD i default = s.lists[i] from qo hi2] at hEl
  have hcl:=KG s.lists[i].codes (by have:=(jW hEl).2.2;omega)
  have hs:=zz hi2
  have hspl:=congrArg List.length hs
  simp only [List.length_append,List.length_cons,List.length_nil] at hspl
  simp only [tZ,↓un_u,simprocAttr,Int.toNat_natCast,qe hi2]
  refine ⟨by omega,?_⟩
  refine C1.im hcl (by rfl) (by rfl) ?_
  simp only [tZ,↓un_u,simprocAttr,hwi]
  refine ⟨by omega,i + 1,by omega,by omega,?_⟩
  rw [hs]
  exact .oA [(4096,some 4096),(4100,some 4100),(8192,some 8192),(1,some 1)] []
 ·have hil:i = s.lists.length:=by omega
  subst hil
  rw [List.take_length]
  clear hsl
  refine qy mixm (α:=Nat) [29] (fun i=>i≤s.cols.length) (fun i=>[(29,vI i)]) (fun i=>[(4100,.arr 2 [.agg [.v (.slice none 0 0),.v (.slice none 0 0)]] false),(8192,.arr 2 [.agg [.asl 1 s.lists.length,.asl 2 (s.cols.take i).length]] false),(1,.arr 2 (s.lists.map cdlT) false),(2,.arr 7 ((s.cols.take i).map colT) false)]) (fun i=>s.cols.length - i) 0 (by omega) ?_ fun i hi=>?_
  ·simp only [List.take_zero,List.length_nil,List.map_nil]
   exact .oA [(4100,some 4100),(8192,some 8192),(1,some 1),(2,none)] []
  have hsl:(s.cols.take i).length = i:=by rw [List.length_take];omega
  refine sD ?_
  refine ⟨fun h2=>?_,fun h2=>?_⟩
  ·have hi2:i < s.cols.length:=by omega
   have hwi:=qh (i:=i) (by omega)
   have hEc:=wJ (h.cs i hi2)
   have hwd:s.cols[i].widths.length≤4:=by
    have hat:qu s i = s.cols[i]:=by rw [qu,qo hi2]
    have hE:=h.cs i hi2
    rw [hat] at hEc
    by_cases k3:s.cols[i].kind = 3
    ·have hm:=hEc.2.2.2.2 k3
     unfold measE at hm
     split at hm
     ·cases hm
     ·split at hm
      ·cases hm
      ·omega
    ·unfold colE at hE
     rw [hat] at hE
     repeat (split at hE;first | (exfalso;revert hE;decide) | (rename_i q;try (exact absurd hE q.2)))
     all_goals omega
   have hcl:=kX s.cols[i].widths (by omega)
   have hs:=zz hi2
   have hspl:=congrArg List.length hs
   simp only [List.length_append,List.length_cons,List.length_nil] at hspl
   simp only [tZ,↓un_u,simprocAttr,Int.toNat_natCast,qe hi2]
   refine ⟨by omega,?_⟩
   refine C1.im hcl (by rfl) (by rfl) ?_
   simp only [tZ,↓un_u,simprocAttr,hwi]
   refine ⟨by omega,i + 1,by omega,by omega,?_⟩
   rw [hs]
   exact .oA [(4100,some 4100),(8192,some 8192),(1,some 1),(2,some 2)] []
  ·have hil:i = s.cols.length:=by omega
   subst hil
   rw [List.take_length]
   exact .oA [] [1,2]
end Go.Proofs
