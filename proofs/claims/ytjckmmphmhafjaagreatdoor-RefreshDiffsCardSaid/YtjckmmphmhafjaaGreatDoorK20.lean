/- A part of the proof: trees of Go values, short forms, contracts. -/
import Derived.WalkKit
import Derived.Still
import Derived.MapKept
import GoSem.Builtin.Cap
import Derived.Laws.Externs
import GoSem.Extern.SlicesOverlaps
import Derived.Carry
import Derived.ProofKit
import Derived.OpenShut
import Derived.HandedShaped
import Derived.Lay
import Derived.LaidLaws
import Derived.MakeChecks
import Derived.SevenTiedAt
import Derived.Test.YtjckmmphmhafjaaGreatDoorChecked
import Derived.Test.YtjckmmphmhafjaaGreatDoorK19
set_option linter.unusedSimpArgs false
set_option linter.unusedVariables false
namespace Go.Proofs
open Go Go.TL
set_option maxHeartbeats 8000000
open So
theorem jI (l:List Int) (hl:l.length * 8≤140737488355328):Spc Tryz.prog qX [vIs l] [] (vIs l) []:=by
 refine qe QW mixm (by simp) fun e _ hst=>qh ?_
 unfold js
 refine sW ?_
 refine ⟨fun h=>?_,?_⟩
 ·have:l = []:=by
   simpa using h
  subst this
  exact .oA [] []
 ·refine ⟨by omega,?_⟩
  exact .oA [] [16384]
theorem qc1 (l:List Pk) (hl:l.length * 16≤140737488355328):Spc Tryz.prog kO [vPs l] [] (vPs l) []:=by
 refine qe Yt mixm (by simp) fun e _ hst=>qh ?_
 unfold kD
 refine sW ?_
 refine ⟨fun h=>?_,?_⟩
 ·have:l = []:=by
   simpa using h
  subst this
  exact .oA [] []
 ·refine ⟨by omega,?_⟩
  exact .oA [] [16384]
theorem qi4 (a b:List Int) (ha:a.length < 4611686018427387904):Spc Tryz.prog ww [vIs a,vIs b] [] (vB (WM a b)) []:=by
 refine qe qa0 mixm (by simp) fun e _ hst=>qh ?_
 unfold kR
 simp only [tZ,↓un_u,simprocAttr,bne_iff_ne,bne_eq_false_iff_eq]
 refine ⟨fun h=>?_,fun h=>?_⟩
 ·rw [WM,Ye (by omega)]
  exact .oA [] []
 have hl:a.length = b.length:=by omega
 refine qr mixm (α:=Nat) [13] (fun i=>i≤a.length∧(WM (a.take i) (b.take i) = true)) (fun i=>[(13,vI i)]) (fun i=>[]) (fun i=>a.length - i) 0 ⟨by omega,?_⟩ ?_ fun i hi=>?_
 ·rfl
 ·exact .oA [] []
 simp only [tZ,↓un_u,simprocAttr,decide_eq_true_eq,decide_eq_false_iff_not]
 refine ⟨fun h=>?_,fun h=>?_⟩
 ·have hib:i < b.length:=by omega
  have hi2:i < a.length:=by omega
  have hwi:=qg (i:=i) (by omega)
  simp only [tZ,↓un_u,simprocAttr,Int.toNat_natCast,qd hi2,hwi,qd hib]
  refine ⟨by omega,by omega,by kernel_rfl,fun h3=>?_,fun h3=>⟨i + 1,⟨by omega,?_⟩,by omega,?_⟩⟩
  ·rw [WM,QM (i:=i) hl (by omega) (by simpa using h3)]
   exact .oA [] []
  ·rw [WM,QE hi2 hib,← WM,hi.2]
   simpa using h3
  ·exact .oA [] []
 ·have hi2:i = a.length:=by omega
  subst hi2
  have h3:=hi.2
  rw [List.take_length,List.take_of_length_le (by omega)] at h3
  rw [h3]
  exact .oA [] []
theorem qc2 (a b:List Pk) (ha:a.length < 4611686018427387904):Spc Tryz.prog kN [vPs a,vPs b] [] (vB (yH a b)) []:=by
 refine qe Yr mixm (by simp) fun e _ hst=>qh ?_
 unfold kC
 simp only [tZ,↓un_u,simprocAttr,bne_iff_ne,bne_eq_false_iff_eq]
 refine ⟨fun h=>?_,fun h=>?_⟩
 ·rw [yH,Ye (by omega)]
  exact .oA [] []
 have hl:a.length = b.length:=by omega
 refine qr mixm (α:=Nat) [13] (fun i=>i≤a.length∧(yH (a.take i) (b.take i) = true)) (fun i=>[(13,vI i)]) (fun i=>[]) (fun i=>a.length - i) 0 ⟨by omega,?_⟩ ?_ fun i hi=>?_
 ·rfl
 ·exact .oA [] []
 simp only [tZ,↓un_u,simprocAttr,decide_eq_true_eq,decide_eq_false_iff_not]
 refine ⟨fun h=>?_,fun h=>?_⟩
 ·have hib:i < b.length:=by omega
  have hi2:i < a.length:=by omega
  have hwi:=qg (i:=i) (by omega)
  simp only [tZ,↓un_u,simprocAttr,Int.toNat_natCast,qd hi2,hwi,qd hib]
  refine ⟨by omega,by omega,by kernel_rfl,fun h3=>?_,fun h3=>⟨i + 1,⟨by omega,?_⟩,by omega,?_⟩⟩
  ·rw [yH,QM (i:=i) hl (by omega) (by simpa [eqPk] using h3)]
   exact .oA [] []
  ·rw [yH,QE hi2 hib,← yH,hi.2]
   simpa [eqPk] using h3
  ·exact .oA [] []
 ·have hi2:i = a.length:=by omega
  subst hi2
  have h3:=hi.2
  rw [List.take_length,List.take_of_length_le (by omega)] at h3
  rw [h3]
  exact .oA [] []
theorem KQ (p:(List Int)→Bool) (f:FuncId) (caps:List T) (hcap:imL caps = true) (l:List (List Int)) (hf:∀ y∈l,Spc Tryz.prog f (vIs y :: caps) [] (vB (p y)) []) (hl:l.length < 4611686018427387904) :
 Spc Tryz.prog jo [.sl 1 (l.map vIs),.clo f caps] [] (vI (idxI p l)) []:=by
 refine qe JH mixm (by simp) fun e _ hst=>qh ?_
 unfold ji
 refine sW ?_
 refine qr mixm (α:=Nat) [8] (fun i=>i≤l.length∧((l.take i).any p = false)) (fun i=>[(8,vI i)]) (fun i=>[]) (fun i=>l.length - i) 0 ⟨by omega,?_⟩ ?_ fun i hi=>?_
 ·simp
 ·exact .oA [] []
 simp only [tZ,↓un_u,simprocAttr,decide_eq_true_eq,decide_eq_false_iff_not]
 refine ⟨fun h=>?_,fun h=>?_⟩
 ·have hi2:i < l.length:=by omega
  have hwi:=qg (i:=i) (by omega)
  simp only [tZ,↓un_u,simprocAttr,Int.toNat_natCast,qd hi2,hwi,qP6]
  refine ⟨by omega,?_⟩
  refine C1.im (hf l[i] (List.getElem_mem hi2)) (ze7 rfl hcap) rfl ?_
  refine sW ?_
  refine ⟨fun h3=>?_,fun h3=>⟨i + 1,⟨by omega,zP hi2 hi.2 h3⟩,by omega,?_⟩⟩
  ·rw [idxI,if_pos (qo3 hi2 h3),QD hi2 hi.2 h3]
   exact .imR rfl rfl
  ·exact .oA [] []
 ·have h2:i = l.length:=by omega
  have h3:=hi.2
  rw [h2,List.take_length] at h3
  rw [idxI,if_neg (by rw [h3];simp)]
  exact .imR rfl rfl
theorem Zr (p:(List Int)→Bool) (f:FuncId) (caps:List T) (hcap:imL caps = true) (l:List (List Int)) (hf:∀ y∈l,Spc Tryz.prog f (vIs y :: caps) [] (vB (p y)) []) (hl:l.length < 4611686018427387904) :
 Spc Tryz.prog zI [.sl 1 (l.map vIs),.clo f caps] [] (vB (l.any p)) []:=by
 refine qe QY mixm (by simp) fun e _ hst=>qh ?_
 unfold zE
 refine sW ?_
 refine C1.im (KQ p f caps hcap l hf hl) (zy8 rfl hcap) rfl ?_
 refine sW ?_
 rw [show decide (idxI p l≥0) = l.any p from zT6 p l]
 exact .imR rfl rfl
theorem Wc (p:Int→Bool) (f:FuncId) (caps:List T) (hcap:imL caps = true) (l:List Int) (hf:∀ y∈l,Spc Tryz.prog f (vI y :: caps) [] (vB (p y)) []) (hl:l.length < 4611686018427387904) :
 Spc Tryz.prog jA [.sl 1 (l.map vI),.clo f caps] [] (vI (idxI p l)) []:=by
 refine qe Ky mixm (by simp) fun e _ hst=>qh ?_
 unfold jt
 refine sW ?_
 refine qr mixm (α:=Nat) [8] (fun i=>i≤l.length∧((l.take i).any p = false)) (fun i=>[(8,vI i)]) (fun i=>[]) (fun i=>l.length - i) 0 ⟨by omega,?_⟩ ?_ fun i hi=>?_
 ·simp
 ·exact .oA [] []
 simp only [tZ,↓un_u,simprocAttr,decide_eq_true_eq,decide_eq_false_iff_not]
 refine ⟨fun h=>?_,fun h=>?_⟩
 ·have hi2:i < l.length:=by omega
  have hwi:=qg (i:=i) (by omega)
  simp only [tZ,↓un_u,simprocAttr,Int.toNat_natCast,qd hi2,hwi,qP6]
  refine ⟨by omega,?_⟩
  refine C1.im (hf l[i] (List.getElem_mem hi2)) (ze7 rfl hcap) rfl ?_
  refine sW ?_
  refine ⟨fun h3=>?_,fun h3=>⟨i + 1,⟨by omega,zP hi2 hi.2 h3⟩,by omega,?_⟩⟩
  ·rw [idxI,if_pos (qo3 hi2 h3),QD hi2 hi.2 h3]
   exact .imR rfl rfl
  ·exact .oA [] []
 ·have h2:i = l.length:=by omega
  have h3:=hi.2
  rw [h2,List.take_length] at h3
  rw [idxI,if_neg (by rw [h3];simp)]
  exact .imR rfl rfl
theorem Jy (p:Int→Bool) (f:FuncId) (caps:List T) (hcap:imL caps = true) (l:List Int) (hf:∀ y∈l,Spc Tryz.prog f (vI y :: caps) [] (vB (p y)) []) (hl:l.length < 4611686018427387904) :
 Spc Tryz.prog zW [.sl 1 (l.map vI),.clo f caps] [] (vB (l.any p)) []:=by
 refine qe Zq mixm (by simp) fun e _ hst=>qh ?_
 unfold zJ
 refine sW ?_
 refine C1.im (Wc p f caps hcap l hf hl) (zy8 rfl hcap) rfl ?_
 refine sW ?_
 rw [show decide (idxI p l≥0) = l.any p from zT6 p l]
 exact .imR rfl rfl
def idxN (n:Int):List Int→Nat
 | []=>0
 | x :: r=>if x = n then 0 else idxN n r + 1
theorem zW8 {n:Int}:∀ {l:List Int} {i:Nat} (h:i < l.length),n∉l.take i→l[i] = n→idxN n l = i
 | [],i,h,_,_=>by simp at h
 | x :: r,0,h,_,hp=>by simp at hp;simp [idxN,hp]
 | x :: r,i + 1,h,h1,hp=>by
   simp only [List.take_succ_cons,List.mem_cons,not_or] at h1
   simp only [idxN]
   rw [if_neg (fun e=>h1.1 e.symm),zW8 (l:=r) (i:=i) (by simpa using h) h1.2 (by simpa using hp)]
def zA3 (l:List Int) (n:Int):Int:=if n∈l then idxN n l else -1
theorem qi5 (l:List Int) (n:Int) (hl:l.length < 4611686018427387904):Spc Tryz.prog wz [vIs l,vI n] [] (vI (zA3 l n)) []:=by
 refine qe qa5 mixm (by simp) fun e _ hst=>qh ?_
 unfold kT
 refine sW ?_
 refine qr mixm (α:=Nat) [8] (fun i=>i≤l.length∧(n∉l.take i)) (fun i=>[(8,vI i)]) (fun i=>[]) (fun i=>l.length - i) 0 ⟨by omega,?_⟩ ?_ fun i hi=>?_
 ·simp
 ·exact .oA [] []
 simp only [tZ,↓un_u,simprocAttr,decide_eq_true_eq,decide_eq_false_iff_not]
 refine ⟨fun h=>?_,fun h=>?_⟩
 ·have hi2:i < l.length:=by omega
  have hwi:=qg (i:=i) (by omega)
  simp only [tZ,↓un_u,simprocAttr,Int.toNat_natCast,qd hi2,hwi,beq_iff_eq,beq_eq_false_iff_ne]
  refine ⟨by omega,fun h3=>?_,fun h3=>⟨i + 1,⟨by omega,?_⟩,by omega,?_⟩⟩
  ·have hm:n∈l:=by rw [h3];exact List.getElem_mem hi2
   rw [zA3,if_pos hm,zW8 hi2 hi.2 h3.symm]
   exact .imR rfl rfl
  ·rw [qD hi2,List.mem_append]
   rintro (h4 | h4)
   ·exact hi.2 h4
   ·simp at h4;exact h3 h4
  ·exact .oA [] []
 ·have h2:i = l.length:=by omega
  have h3:=hi.2
  rw [h2,List.take_length] at h3
  rw [zA3,if_neg h3]
  exact .imR rfl rfl
theorem jX (l:List Int) (n:Int) (hl:l.length < 4611686018427387904):Spc Tryz.prog zp [vIs l,vI n] [] (vB (l.contains n)) []:=by
 refine qe KV mixm (by simp) fun e _ hst=>qh ?_
 unfold jB
 refine sW ?_
 refine C1.im (qi5 l n hl) rfl (by rfl) ?_
 refine sW ?_
 refine .imR ?_ rfl
 unfold zA3
 by_cases h:n∈l
 ·rw [if_pos h,List.contains_iff_mem.2 h];simp
 ·rw [if_neg h]
  cases hc:l.contains n
  ·simp
  ·exact absurd (List.contains_iff_mem.1 hc) h
theorem qm8 (l:List Int) (hl:l.length < 4611686018427387904):Spc Tryz.prog yc [vIs l] [] (vB (ascI l)) []:=by
 have hB:ascI l = (List.range l.length).all (asc2 l):=rfl
 rw [hB]
 refine qe qf4 mixm (by simp) fun e _ hst=>qh ?_
 unfold wJ
 refine sW ?_
 rcases Nat.eq_zero_or_pos l.length with hz | hz
 ·refine qr mixm (α:=Nat) [3] (fun i=>i = 0) (fun i=>[(3,vI (i + 1:Nat))]) (fun i=>[]) (fun i=>0) 0 rfl ?_ fun i hi=>?_
  ·exact .oA [] []
  subst hi
  refine sD ?_
  refine ⟨fun h=>absurd h (by omega),fun _=>?_⟩
  rw [hz]
  exact .oA [] []
 refine qr mixm (α:=Nat) [3] (fun i=>i + 1≤l.length∧(List.range (i + 1)).all (asc2 l) = true) (fun i=>[(3,vI (i + 1:Nat))]) (fun i=>[]) (fun i=>l.length - i) 0 ⟨by omega,by rfl⟩ ?_ fun i hi=>?_
 ·exact .oA [] []
 obtain ⟨i1,i2⟩:=hi
 refine sD ?_
 refine ⟨fun h2=>?_,fun h2=>?_⟩
 ·have hi2:i + 1 < l.length:=by omega
  have hi3:i < l.length:=by omega
  have hwi:=qg (i:=i + 1) (by omega)
  have e3:=zk (i:=i + 1) (by omega) (by omega)
  rw [Nat.add_sub_cancel] at e3
  have hP:asc2 l (i + 1) = decide (l[i] < l[i + 1]):=by
   unfold asc2
   rw [Nat.add_sub_cancel,qj hi2,qj hi3,decide_eq_false (by omega),Bool.false_or]
  simp only [tZ,↓un_u,simprocAttr,Int.toNat_natCast,qd hi2,qd hi3,e3,hwi,tD]
  refine ⟨by omega,by omega,by kernel_rfl,fun h4=>?_,fun h4=>?_⟩
  ·rw [qy7 hi2 (by rw [hP];exact decide_eq_false (by omega))]
   exact .oA [] []
  ·refine ⟨i + 1,⟨by omega,by rw [ZD,i2,hP];exact decide_eq_true (by omega)⟩,by omega,?_⟩
   exact .oA [] []
 ·have hil:i + 1 = l.length:=by omega
  rw [← hil,i2]
  exact .oA [] []
theorem zA4 {x y:T} {l:List T} (hx:imA x = true) (hy:imA y = true) (h:imL l = true):imAL ([x,y] ++ l) = true:=by
 show (imA x && (imA y && imAL l)) = true
 rw [hx,hy,zT8 h];rfl
theorem jK (c:(List Int)→Int) (x:Int) (f:FuncId) (caps:List T) (hcap:imL caps = true) (l:List (List Int)) (hf:∀ y∈l,Spc Tryz.prog f (vIs y :: vI x :: caps) [] (vI (c y)) []) (hl:l.length < 4611686018427387904)
 (hm:∀ (i j:Nat) (hi:i < l.length) (hj:j < l.length),i < j→c l[j] < 0→c l[i] < 0) :
 Spc Tryz.prog qR [.sl 1 (l.map vIs),vI x,.clo f caps] [] (.tup [vI (l.findIdx fun y=>decide (c y≥0)),vB (match l.find? (fun y=>decide (c y≥0)) with | some y=>c y == 0 | none=>false)]) []:=by
 refine qe jE mixm (by simp) fun e _ hst=>qh ?_
 unfold qQ
 refine sW ?_
 refine qr mixm (α:=Nat×Nat) [9,10] (fun p=>p.1≤p.2∧p.2≤l.length∧(∀ (m:Nat) (h:m < l.length),m < p.1→c l[m] < 0)∧(∀ (m:Nat) (h:m < l.length),p.2≤m→¬ c l[m] < 0)) (fun p=>[(9,vI p.1),(10,vI p.2)]) (fun p=>[]) (fun p=>p.2 - p.1) (0,l.length) ?_ ?_ fun p hp=>?_
 ·exact ⟨by simp,by simp,fun m h h2=>absurd h2 (by simp),fun m h h2=>absurd h2 (by simp only;omega)⟩
 ·exact .oA [] []
 obtain ⟨i,j⟩:=p
 obtain ⟨h1,h2,h3,h4⟩:=hp
 dsimp only at h1 h2 h3 h4
 simp only [tZ,↓un_u,simprocAttr,decide_eq_true_eq,decide_eq_false_iff_not]
 refine ⟨fun h5=>?_,fun h5=>?_⟩
 ·have hij:i < j:=by omega
  obtain ⟨h,hh,hhi,hhj⟩:∃ h:Nat,h = (i + j) / 2∧i≤h∧h < j:=⟨(i + j) / 2,rfl,by omega,by omega⟩
  have hw1:IntKind.i64.wrap ((i:Int) + (j:Int)) = ((i + j:Nat):Int):=by rw [IntWalk.i64_in _ (by omega)];omega
  have hw2:IntKind.u64.wrap ((i + j:Nat):Int) = ((i + j:Nat):Int):=IntWalk.u64_in _ (by omega)
  have hw3:shrI .u64 ((i + j:Nat):Int) 1 = (h:Int):=by
   simp only [shrI]
   rw [show (min (1:Int).toNat IntKind.u64.bits) = 1 from rfl,Int.fdiv_eq_ediv_of_nonneg _ (by decide)]
   omega
  have hw4:IntKind.i64.wrap (h:Int) = (h:Int):=IntWalk.i64_in _ (by omega)
  have hlt:h < l.length:=by omega
  have hws:=qg (i:=h) (by omega)
  have hcall:=hf l[h] (List.getElem_mem hlt)
  simp only [tZ,↓un_u,simprocAttr,hw1,hw2,hw3,hw4,Int.toNat_natCast,qd hlt]
  refine ⟨by omega,?_⟩
  refine C1.im hcall (zA4 rfl rfl hcap) rfl ?_
  simp only [tZ,↓un_u,simprocAttr,decide_eq_true_eq,decide_eq_false_iff_not,hws]
  refine ⟨fun h6=>?_,fun h6=>?_⟩
  ·refine ⟨(h + 1,j),⟨by simp only;omega,h2,fun m hm1 hm2=>?_,h4⟩,by simp only;omega,?_⟩
   ·by_cases hmh:m = h
    ·subst hmh;exact h6
    ·exact hm m h hm1 hlt (by simp only at hm2;omega) h6
   ·exact .oA [] []
  ·refine ⟨(i,h),⟨by simp only;omega,by simp only;omega,h3,fun m hm1 hm2 hm3=>?_⟩,by simp only;omega,?_⟩
   ·by_cases hmh:m = h
    ·subst hmh;exact h6 hm3
    ·exact h6 (hm h m hlt hm1 (by simp only at hm2;omega) hm3)
   ·exact .oA [] []
 ·have hij:i = j:=by omega
  subst hij
  have hfi:l.findIdx (fun y=>decide (c y≥0)) = i:=by
   by_cases hil:i < l.length
   ·refine QD hil ?_ (by simpa using h4 i hil (Nat.le_refl _))
    rw [List.any_eq_false]
    intro y hy
    obtain ⟨m,hm1,rfl⟩:=List.getElem_of_mem hy
    rw [List.length_take] at hm1
    rw [List.getElem_take]
    have:=h3 m (by omega) (by omega)
    simp;omega
   ·have:i = l.length:=by omega
    subst this
    rw [List.findIdx_eq_length]
    intro y hy
    obtain ⟨m,hm1,rfl⟩:=List.getElem_of_mem hy
    have:=h3 m hm1 hm1
    simp;omega
  rw [hfi]
  by_cases hil:i < l.length
  ·have hg:decide ((i:Int) < (l.length:Int)) = true:=by simp;omega
   have hcall:=hf l[i] (List.getElem_mem hil)
   have hfd:l.find? (fun y=>decide (c y≥0)) = some l[i]:=by
    refine je0 hil ?_ (by simpa using h4 i hil (Nat.le_refl _))
    rw [List.any_eq_false]
    intro y hy
    obtain ⟨m,hm1,rfl⟩:=List.getElem_of_mem hy
    rw [List.length_take] at hm1
    rw [List.getElem_take]
    have:=h3 m (by omega) (by omega)
    simp;omega
   rw [hfd]
   simp only [tZ,↓un_u,simprocAttr,hg,Int.toNat_natCast,qd hil]
   refine ⟨by omega,C2.one (by first | trivial | omega) (C1.im hcall (zA4 rfl rfl hcap) rfl ?_)⟩
   refine sW ?_
   exact .oA [] []
  ·have hg:decide ((i:Int) < (l.length:Int)) = false:=by simp;omega
   have hfd:l.find? (fun y=>decide (c y≥0)) = none:=by
    rw [List.find?_eq_none]
    intro y hy
    obtain ⟨m,hm1,rfl⟩:=List.getElem_of_mem hy
    have:=h3 m hm1 (by omega)
    simp;omega
   rw [hfd]
   simp only [tZ,↓un_u,simprocAttr,hg]
   refine ⟨fun h=>by omega,fun h=>by omega,C2.no (by omega) ?_⟩
   simp only [tZ,↓un_u,simprocAttr,hg,zl8,not_false_eq_true]
   exact .oA [] []
def cmpK (k:Int) (r:List Int):Int:=if hd r < k then -1 else if hd r > k then 1 else 0
theorem qr3 (r:List Int) (k:Int) (hr:0 < r.length):Spc Tryz.prog kK [vIs r,vI k] [] (vI (cmpK k r)) []:=by
 have hg:=qU hr
 refine qe ql7 mixm (by simp) fun e _ hst=>qh ?_
 unfold yl
 simp only [tZ,↓un_u,simprocAttr,hg,tD]
 refine ⟨by omega,fun h=>?_,fun h=>?_⟩
 ·rw [cmpK,if_pos h]
  exact .oA [] []
 refine ⟨by omega,fun h2=>?_,fun h2=>?_⟩
 ·rw [cmpK,if_neg h,if_pos h2]
  exact .oA [] []
 ·rw [cmpK,if_neg h,if_neg h2]
  exact .oA [] []
def fndN (l:List (List Int)) (k:Int):Nat:=l.findIdx fun y=>decide (cmpK k y≥0)
theorem kI (l:List (List Int)) (k:Int) (hl:l.length < 4611686018427387904) (hr:∀ r∈l,0 < r.length) (ha:AscR l):Spc Tryz.prog zU [vRw l,vI k] [] (.tup [vI (fndN l k),vB (hasK l k)]) []:=by
 have hp:=List.pairwise_iff_getElem.1 ha
 have hm:∀ (i j:Nat) (hi:i < l.length) (hj:j < l.length),i < j→cmpK k l[j] < 0→cmpK k l[i] < 0:=by
  intro i j hi hj hij h
  have:=hp i j hi hj hij
  unfold cmpK at *
  grind
 have hb:=jK (cmpK k) k kK [] rfl l (fun y hy=>qr3 y k (hr y hy)) (by omega) hm
 refine qe qw2 mixm (by simp) fun e _ hst=>qh ?_
 unfold QV
 refine sW ?_
 refine C1.im hb (by rfl) (by rfl) ?_
 have hb2:(match l.find? (fun y=>decide (cmpK k y≥0)) with | some y=>cmpK k y == 0 | none=>false) = hasK l k:=by
  cases hf:l.find? (fun y=>decide (cmpK k y≥0)) with
  | none=>
    have h1:=List.find?_eq_none.1 hf
    symm
    refine List.any_eq_false.2 fun y hy h2=>?_
    have h3:=h1 y hy
    simp [cmpK] at h3 h2
    grind
  | some y=>
    have h1:=List.find?_some hf
    have h2:=List.mem_of_find?_eq_some hf
    obtain ⟨h3,i,hi,h4,h5⟩:=List.find?_eq_some_iff_getElem.1 hf
    subst h4
    show (cmpK k l[i] == 0) = hasK l k
    cases hc:cmpK k l[i] == 0 with
    | true=>
      symm
      refine (show hasK l k = true from List.any_eq_true.2 ⟨_,h2,?_⟩)
      unfold cmpK at hc
      grind
    | false=>
      symm
      refine (show hasK l k = false from List.any_eq_false.2 fun y hy h6=>?_)
      obtain ⟨j,hj,rfl⟩:=List.getElem_of_mem hy
      have h7:hd l[j] = k:=by simpa using h6
      by_cases c1:j < i
      ·have:=h5 j c1
       unfold cmpK at *
       grind
      ·by_cases c2:i < j
       ·have:=hp i j hi hj c2
        unfold cmpK at *
        grind
       ·have:i = j:=by omega
        subst this
        unfold cmpK at *
        grind
 rw [hb2]
 refine sW ?_
 exact .oA [] []
theorem zW9 (l:List (List Int)) (k:Int):fndN l k≤l.length:=List.findIdx_le_length
theorem zX0 {l:List (List Int)} {k:Int} (ha:AscR l) (h:hasK l k = true):∃ hj:fndN l k < l.length,rowK l k = some l[fndN l k]:=by
 obtain ⟨x,hx,e⟩:=List.any_eq_true.1 h
 have e:hd x = k:=by simpa using e
 have h1:fndN l k < l.length:=List.findIdx_lt_length_of_exists ⟨x,hx,by unfold cmpK;grind⟩
 refine ⟨h1,?_⟩
 have h2:=List.findIdx_getElem (p:=fun y=>decide (cmpK k y≥0)) (xs:=l) (w:=h1)
 have h3:¬ hd l[fndN l k] < k:=by
  have:cmpK k l[fndN l k]≥0:=of_decide_eq_true h2
  unfold cmpK at this
  grind
 obtain ⟨i,hi,rfl⟩:=List.getElem_of_mem hx
 have hp:=List.pairwise_iff_getElem.1 ha
 have h4:fndN l k = i:=by
  by_cases c1:fndN l k < i
  ·have:=hp _ i h1 hi c1;omega
  ·by_cases c2:i < fndN l k
   ·have:=List.not_of_lt_findIdx c2
    simp [cmpK] at this
    grind
   ·omega
 have h5:l[fndN l k] = l[i]:=by simp only [h4]
 rw [h5]
 have h6:=(zj2 ha).2 (List.getElem_mem hi)
 rw [e] at h6
 exact h6
end Go.Proofs
namespace Go.Proofs
open Go Go.TL
set_option maxRecDepth 4000
set_option maxHeartbeats 8000000
open So
theorem YH (a b:Ext) (ha:ExtSm a) (hb:ExtSm b):Spc Tryz.prog yv [extT a,extT b] [] (.tup [chgT (qi3 a b),vI (JQ a b)]) []:=by
 have hE:=(rfl:JQ a b = JQ a b)
 have hS:qi3 a b = if JQ a b≠0 then ⟨0,[],[]⟩ else ⟨b.ver,Yy a.rows b.rows,qm7 a.rows b.rows⟩:=rfl
 conv at hE=>rhs;unfold JQ
 have hbad:∀ v,v≠0→JQ a b = v→qi3 a b = ⟨0,[],[]⟩∧JQ a b = v:=fun v h1 h2=>⟨by rw [hS,h2,if_pos h1],h2⟩
 have hgood:JQ a b = 0→qi3 a b = ⟨b.ver,Yy a.rows b.rows,qm7 a.rows b.rows⟩:=fun h=>by rw [hS,h,if_neg (by simp)]
 clear hS
 generalize JQ a b = E at hE hbad hgood ⊢
 generalize qi3 a b = A at hbad hgood ⊢
 have har:=ha.rows
 have hbr:=hb.rows
 have hap:=ha.picks
 have hla:=har.1
 have hlb:=hbr.1
 refine qe qv8 mixm (by simp) fun e _ hst=>qh ?_
 unfold QT
 refine sW ?_
 refine C1.im (ko a.rows har.1) (by rfl) (by rfl) ?_
 refine sW ?_
 refine C2.im (fun _=>ko b.rows hbr.1) (fun _=>rfl) (by rfl) ?_
 simp only [tZ,↓un_u,simprocAttr,tD,Bool.not_eq_true',Bool.not_eq_false']
 refine ⟨fun h=>?_,fun h=>?_⟩
 ·obtain ⟨a1,a2⟩:=hbad 11 (by decide) (by rw [hE,if_pos h])
  rw [a1,a2]
  exact .oA [] []
 rw [if_neg (by rw [h.1,h.2];simp)] at hE
 obtain ⟨hap1,hasa⟩:=KP.1 h.1
 obtain ⟨hbp1,hasb⟩:=KP.1 h.2
 refine C2.im (fun _=>qc2 a.picks b.picks (by omega)) (fun _=>rfl) (by rfl) ?_
 have hpe:(a.proj.toList == b.proj.toList) = eqB a.proj b.proj:=rfl
 simp only [tZ,↓un_u,simprocAttr,tD,Bool.not_eq_true',Bool.not_eq_false',hpe]
 refine ⟨fun h2=>?_,fun h2=>?_⟩
 ·obtain ⟨a1,a2⟩:=hbad 23 (by decide) (by rw [hE,if_pos h2])
  rw [a1,a2]
  exact .oA [] []
 rw [if_neg (by rw [h2.1,h2.2];simp)] at hE
 have a1:=hgood hE
 rw [a1,hE]
 clear hbad hgood
 have hap2:=hap1
 have hrw:=hb.rows.2
 refine qr mixm (α:=Nat) [48] (fun i=>i≤a.rows.length) (fun i=>[(48,vI i)]) (fun i=>[(4096,.arr 4 [extT a] false),(4100,.arr 4 [extT b] false),(4104,.arr 3 [chgT ⟨0,[],[]⟩] false),(24588,.arr 3 [.agg [vI b.ver,.asl 1 (Yy (a.rows.take i) b.rows).length,.v (.slice none 0 0)]] false),(1,.arr 1 ((Yy (a.rows.take i) b.rows).map vI) false)]) (fun i=>a.rows.length - i) 0 (by omega) ?_ fun i hi=>?_
 ·exact .oA [(4096,some 4096),(4100,some 4100),(4104,some 4104),(24588,some 24588),(1,none)] []
 ·have hgl:=qA3 b.rows (a.rows.take i)
  rw [List.length_take] at hgl
  refine sD ?_
  refine ⟨fun h3=>?_,fun h3=>?_⟩
  ·have hi2:i < a.rows.length:=by omega
   have hwi:=qg (i:=i) (by omega)
   have hpi:=hap1 _ (List.getElem_mem hi2)
   have hgi:=qU hpi
   have hsp:=qN3 b.rows a.rows hi2
   simp only [tZ,↓un_u,simprocAttr,Int.toNat_natCast,qd hi2,hgi]
   refine ⟨by omega,by omega,?_⟩
   refine C1.im (kI b.rows (hd a.rows[i]) (by omega) hbp1 hasb) (by rfl) (by rfl) ?_
   simp only [tZ,↓un_u,simprocAttr,Bool.not_eq_true',Bool.not_eq_false']
   refine ⟨by kernel_rfl,fun h4=>?_,fun h4=>?_⟩
   ·rw [if_pos h4] at hsp
    have hspl:=congrArg List.length hsp
    simp only [List.length_append,List.length_cons,List.length_nil] at hspl
    simp only [tZ,↓un_u,simprocAttr,Int.toNat_natCast,qd hi2,hgi,hwi]
    refine ⟨by omega,by omega,by kernel_rfl,i + 1,by omega,by omega,?_⟩
    rw [hsp]
    exact .oA [(4096,some 4096),(4100,some 4100),(4104,some 4104),(24588,some 24588),(1,some 1)] []
   ·rw [if_neg (by rw [h4];simp),List.append_nil] at hsp
    simp only [tZ,↓un_u,simprocAttr,hwi]
    refine ⟨i + 1,by omega,by omega,?_⟩
    rw [hsp]
    exact .oA [(4096,some 4096),(4100,some 4100),(4104,some 4104),(24588,some 24588),(1,some 1)] []
  ·have hil:i = a.rows.length:=by omega
   subst hil
   rw [List.take_length] at hgl ⊢
   generalize hG:Yy a.rows b.rows = G at hgl ⊢
   clear hap1 hap
   refine qr mixm (α:=Nat) [75] (fun i=>i≤b.rows.length) (fun i=>[(75,vI i)]) (fun i=>[(4096,.arr 4 [extT a] false),(4104,.arr 3 [chgT ⟨0,[],[]⟩] false),(24588,.arr 3 [.agg [vI b.ver,.asl 1 G.length,.asl 2 (qm7 a.rows (b.rows.take i)).length]] false),(1,.arr 1 (G.map vI) false),(2,.arr 1 ((qm7 a.rows (b.rows.take i)).map vIs) false)]) (fun i=>b.rows.length - i) 0 (by omega) ?_ fun i hi=>?_
   ·exact .oA [(4096,some 4096),(4104,some 4104),(24588,some 24588),(1,some 1),(2,none)] []
   ·have hrl:=qA4 a.rows (b.rows.take i)
    rw [List.length_take] at hrl
    refine sD ?_
    refine ⟨fun h3=>?_,fun h3=>?_⟩
    ·have hi2:i < b.rows.length:=by omega
     have hwi:=qg (i:=i) (by omega)
     have hpi:=hbp1 _ (List.getElem_mem hi2)
     have hgi:=qU hpi
     have hsp:=qN4 a.rows b.rows hi2
     have hlr:=hrw _ (List.getElem_mem hi2)
     have hCl:=jI b.rows[i] hlr
     simp only [tZ,↓un_u,simprocAttr,Int.toNat_natCast,qd hi2,hgi]
     refine ⟨by omega,by omega,?_⟩
     refine C1.im (kI a.rows (hd b.rows[i]) (by omega) hap2 hasa) (by rfl) (by rfl) ?_
     refine (Classical.em (hasK a.rows (hd b.rows[i]) = true)).elim (fun h4=>?_) fun h4=>?_
     ·obtain ⟨f2,f3⟩:=zX0 hasa h4
      generalize fndN a.rows (hd b.rows[i]) = j at f2 f3 ⊢
      rw [f3] at hsp
      rw [h4]
      have hal:=har.2 _ (List.getElem_mem f2)
      have hIn:=qi4 a.rows[j] b.rows[i] (by omega)
      simp only [tZ,↓un_u,simprocAttr,Int.toNat_natCast,qd hi2,qd f2]
      refine ⟨by kernel_rfl,by omega,?_⟩
      refine C2.im (fun _=>hIn) (fun _=>rfl) (by rfl) ?_
      simp only [tZ,↓un_u,simprocAttr,Bool.not_eq_true',Bool.not_eq_false']
      refine ⟨fun h5=>?_,fun h5=>?_⟩
      ·rw [if_pos (fun k=>by rw [JL.2 (Option.some.inj k)] at h5;cases h5)] at hsp
       have hspl:=congrArg List.length hsp
       simp only [List.length_append,List.length_cons,List.length_nil] at hspl
       refine C1.im hCl (by rfl) (by rfl) ?_
       simp only [tZ,↓un_u,simprocAttr,Int.toNat_natCast,qd hi2,hgi,hwi]
       refine ⟨by omega,by kernel_rfl,i + 1,by omega,by omega,?_⟩
       rw [hsp]
       exact .oA [(4096,some 4096),(4104,some 4104),(24588,some 24588),(1,some 1),(2,some 2)] []
      ·rw [if_neg (fun k=>k (by rw [JL.1 h5])),List.append_nil] at hsp
       simp only [tZ,↓un_u,simprocAttr,hwi]
       refine ⟨i + 1,by omega,by omega,?_⟩
       rw [hsp]
       exact .oA [(4096,some 4096),(4104,some 4104),(24588,some 24588),(1,some 1),(2,some 2)] []
     ·have h4:hasK a.rows (hd b.rows[i]) = false:=by simpa using h4
      have hrn:rowK a.rows (hd b.rows[i])≠some b.rows[i]:=fun k=>by
       have k2:=List.find?_some k
       rw [show hasK a.rows (hd b.rows[i]) = true from List.any_eq_true.2 ⟨_,List.mem_of_find?_eq_some k,k2⟩] at h4
       cases h4
      rw [if_pos hrn] at hsp
      have hspl:=congrArg List.length hsp
      simp only [List.length_append,List.length_cons,List.length_nil] at hspl
      rw [h4]
      simp only [tZ,↓un_u,simprocAttr,Int.toNat_natCast,qd hi2]
      refine ⟨by kernel_rfl,?_⟩
      refine C2.no (fun k=>k) ?_
      simp only [tZ,↓un_u,simprocAttr,hgi,hwi,Int.toNat_natCast,qd hi2]
      refine C1.im hCl (by rfl) (by rfl) ?_
      simp only [tZ,↓un_u,simprocAttr,hgi,hwi,Int.toNat_natCast,qd hi2]
      refine ⟨by omega,by kernel_rfl,i + 1,by omega,by omega,?_⟩
      rw [hsp]
      exact .oA [(4096,some 4096),(4104,some 4104),(24588,some 24588),(1,some 1),(2,some 2)] []
    ·have hil:i = b.rows.length:=by omega
     subst hil
     rw [List.take_length]
     exact .oA [] [1,2]
end Go.Proofs
namespace Go.Proofs
open Go Go.TL
set_option maxRecDepth 4000
set_option maxHeartbeats 8000000
open So
theorem qm9 (x:Ext) (hx:x.picks.length < 4611686018427387904) (r:List Int):Spc Tryz.prog ka [vIs r,.ip (extT x).cells] [] (vB (decide (r.length≠x.picks.length + 1))) []:=by
 have hwi:=qg (i:=x.picks.length) (by omega)
 refine qe qf2 mixm (by simp) fun e _ hst=>qh ?_
 unfold wI
 refine sW ?_
 simp only [hwi]
 rw [show ((r.length:Int) != ((x.picks.length + 1:Nat):Int)) = decide (r.length≠x.picks.length + 1) from by
  rw [Bool.eq_iff_iff,bne_iff_ne,decide_eq_true_eq];omega]
 exact .oA [] []
theorem zj4 (a b:Chg) (ha:a.gone.length≤1000000) (har:RwSm a.rows):Spc Tryz.prog Zu [chgT a,chgT b] [] (vB ((a.ver == b.ver) && WM a.gone b.gone && WN a.rows b.rows)) []:=by
 have h1:=har.1
 refine qe qQ4 mixm (by simp) fun e _ hst=>qh ?_
 unfold Km
 refine sW ?_
 refine C2.im (fun _=>yG a.gone b.gone (by omega)) (fun _=>rfl) (by rfl) ?_
 refine sW ?_
 refine C2.im (fun _=>qo6 a.rows b.rows (by omega) (fun r hr=>by have:=har.2 r hr;omega)) (fun _=>rfl) (by rfl) ?_
 refine sW ?_
 exact .oA [] []
def selR (g:List Int) (rs:List (List Int)) (r:List Int):List (List Int):=match rowK rs (hd r) with | some q=>[q] | none=>if g.contains (hd r) = true then [] else [r]
def pinR (l:List (List Int)) (r:List Int):List (List Int):=if hasK l (hd r) = true then l else l.take (fndN l (hd r)) ++ r :: l.drop (fndN l (hd r))
def app2 (a:List (List Int)) (g:List Int) (rs:List (List Int)):List (List Int):=rs.foldl pinR (a.flatMap (selR g rs))
theorem zq0 {l:List (List Int)} {k:Int} {r:List Int} (h:rowK l k = some r):hd r = k∧r∈l:=by
 have h1:=List.find?_some h
 exact ⟨by simpa using h1,List.mem_of_find?_eq_some h⟩
theorem ZG {l:List (List Int)} {k:Int}:hasK l k = true↔∃ r∈l,hd r = k:=by
 unfold hasK
 rw [List.any_eq_true]
 simp
theorem qA5 {l:List (List Int)} {k:Int}:rowK l k = none↔hasK l k = false:=by
 unfold rowK hasK
 rw [List.find?_eq_none,List.any_eq_false]
theorem zq1 {g:List Int} {rs:List (List Int)} {r x:List Int} (h:x∈selR g rs r):hd x = hd r:=by
 unfold selR at h
 split at h
 ·rename_i q e
  rw [List.mem_singleton] at h
  rw [h];exact (zq0 e).1
 ·split at h
  ·simp at h
  ·rw [List.mem_singleton] at h
   rw [h]
theorem zq2 {g:List Int} {rs:List (List Int)}:∀ {a:List (List Int)},AscR a→AscR (a.flatMap (selR g rs))
 | [],_=>List.Pairwise.nil
 | r :: a,h=>by
   obtain ⟨h1,h2⟩:=List.pairwise_cons.1 h
   rw [List.flatMap_cons]
   refine List.pairwise_append.2 ⟨?_,zq2 h2,fun x hx y hy=>?_⟩
   ·unfold selR
    split
    ·exact List.pairwise_singleton _ _
    ·split
     ·exact List.Pairwise.nil
     ·exact List.pairwise_singleton _ _
   ·obtain ⟨q,hq,hy⟩:=List.mem_flatMap.1 hy
    rw [zq1 hx,zq1 hy]
    exact h1 q hq
theorem zX1 {l:List (List Int)} {k:Int} {x:List Int} (h:x∈l.take (fndN l k)):hd x < k:=by
 obtain ⟨i,hi,rfl⟩:=List.getElem_of_mem h
 rw [List.length_take] at hi
 rw [List.getElem_take]
 have:=List.not_of_lt_findIdx (show i < fndN l k by omega)
 simp [cmpK] at this
 grind
theorem zX2 {l:List (List Int)} {k:Int} {x:List Int} (ha:AscR l) (h:x∈l.drop (fndN l k)):k≤hd x:=by
 obtain ⟨i,hi,rfl⟩:=List.getElem_of_mem h
 rw [List.length_drop] at hi
 rw [List.getElem_drop]
 have h1:fndN l k < l.length:=by omega
 have h2:=List.findIdx_getElem (p:=fun y=>decide (cmpK k y≥0)) (xs:=l) (w:=h1)
 have h3:cmpK k l[fndN l k]≥0:=of_decide_eq_true h2
 have h4:k≤hd l[fndN l k]:=by
  unfold cmpK at h3
  grind
 rcases Nat.eq_zero_or_pos i with h5 | h5
 ·subst h5
  exact h4
 ·have:=List.pairwise_iff_getElem.1 ha (fndN l k) (fndN l k + i) h1 (by omega) (by omega)
  omega
theorem js6 {l:List (List Int)} {r:List Int} (ha:AscR l):AscR (pinR l r)∧∀ x,x∈pinR l r↔x∈l∨(x = r∧hasK l (hd r) = false):=by
 unfold pinR
 cases h:hasK l (hd r) with
 | true=>exact ⟨by rw [if_pos rfl];exact ha,fun x=>by simp⟩
 | false=>
   rw [if_neg (by simp)]
   have hlt:∀ x∈l.drop (fndN l (hd r)),hd r < hd x:=fun x hx=>by
    have h1:=zX2 ha hx
    have h2:hd x≠hd r:=fun e=>by
     rw [ZG.2 ⟨x,List.mem_of_mem_drop hx,e⟩] at h
     cases h
    omega
   have ha2:=ha
   rw [← List.take_append_drop (fndN l (hd r)) l] at ha2
   obtain ⟨p1,p2,p3⟩:=List.pairwise_append.1 ha2
   refine ⟨List.pairwise_append.2 ⟨p1,List.pairwise_cons.2 ⟨fun x hx=>hlt x hx,p2⟩,fun x hx y hy=>?_⟩,fun x=>?_⟩
   ·rcases List.mem_cons.1 hy with rfl | hy
    ·exact zX1 hx
    ·exact p3 x hx y hy
   ·have:=List.mem_append (s:=l.take (fndN l (hd r))) (t:=l.drop (fndN l (hd r))) (a:=x)
    rw [List.take_append_drop] at this
    rw [List.mem_append,List.mem_cons,this]
    simp
    grind
theorem qW3:∀ (rs l:List (List Int)),AscR l→AscR rs→AscR (rs.foldl pinR l)∧∀ x,x∈rs.foldl pinR l↔x∈l∨(x∈rs∧hasK l (hd x) = false)
 | [],l,h,_=>⟨h,fun r=>by simp⟩
 | q :: rs,l,h,hr=>by
   obtain ⟨h1,h2⟩:=List.pairwise_cons.1 hr
   obtain ⟨k1,k2⟩:=js6 (r:=q) h
   obtain ⟨h3,h4⟩:=qW3 rs (pinR l q) k1 h2
   refine ⟨h3,fun x=>?_⟩
   have hk:∀ y∈rs,hasK (pinR l q) (hd y) = hasK l (hd y):=fun y hy=>by
    rw [Bool.eq_iff_iff,ZG,ZG]
    have:=h1 y hy
    constructor
    ·rintro ⟨r,m,e⟩
     rcases (k2 r).1 m with m | ⟨m,_⟩
     ·exact ⟨r,m,e⟩
     ·subst m;omega
    ·rintro ⟨r,m,e⟩
     exact ⟨r,(k2 r).2 (.inl m),e⟩
   rw [List.foldl_cons,h4,k2,List.mem_cons]
   constructor
   ·rintro ((m | ⟨rfl,m⟩) | ⟨m,n⟩)
    ·exact .inl m
    ·exact .inr ⟨.inl rfl,m⟩
    ·rw [hk x m] at n
     exact .inr ⟨.inr m,n⟩
   ·rintro (m | ⟨rfl | m,n⟩)
    ·exact .inl (.inl m)
    ·exact .inl (.inr ⟨rfl,n⟩)
    ·exact .inr ⟨m,by rw [hk x m];exact n⟩
theorem js7 {a:List (List Int)} {g:List Int} {rs:List (List Int)} (ha:AscR a) (hr:AscR rs) (hg:∀ r∈rs,g.contains (hd r) = false):app2 a g rs = appR a g rs:=by
 obtain ⟨h1,h2⟩:=qW3 rs (a.flatMap (selR g rs)) (zq2 ha) hr
 obtain ⟨h3,h4⟩:=zW7 rs (a.filter fun r=>!g.contains (hd r)) (ha.filter _) hr
 refine jg9 h1 h3 fun x=>?_
 show x∈rs.foldl pinR (a.flatMap (selR g rs))↔x∈rs.foldl putR (a.filter fun r=>!g.contains (hd r))
 rw [h2,h4]
 have hsel:x∈a.flatMap (selR g rs)↔(∃ r∈a,rowK rs (hd r) = some x)∨(x∈a∧hasK rs (hd x) = false∧g.contains (hd x) = false):=by
  rw [List.mem_flatMap]
  constructor
  ·rintro ⟨r,hr,hx⟩
   unfold selR at hx
   split at hx
   ·rename_i q e
    rw [List.mem_singleton] at hx
    subst hx
    exact .inl ⟨r,hr,e⟩
   ·rename_i e
    split at hx
    ·simp at hx
    ·rename_i e2
     rw [List.mem_singleton] at hx
     subst hx
     exact .inr ⟨hr,qA5.1 e,by simpa using e2⟩
  ·rintro (⟨r,hr,e⟩ | ⟨m,e1,e2⟩)
   ·exact ⟨r,hr,by unfold selR;rw [e];simp⟩
   ·refine ⟨x,m,?_⟩
    unfold selR
    rw [qA5.2 e1]
    simp only [e2]
    simp
 rw [hsel]
 constructor
 ·rintro ((⟨r,m,e⟩ | ⟨m,e1,e2⟩) | ⟨m,_⟩)
  ·exact .inl (zq0 e).2
  ·refine .inr ⟨List.mem_filter.2 ⟨m,by rw [e2];rfl⟩,fun q hq e=>?_⟩
   rw [ZG.2 ⟨q,hq,e.symm⟩] at e1
   cases e1
  ·exact .inl m
 ·rintro (m | ⟨m,e⟩)
  ·cases hh:hasK (a.flatMap (selR g rs)) (hd x) with
   | false=>exact .inr ⟨m,rfl⟩
   | true=>
     obtain ⟨y,hy,e⟩:=ZG.1 hh
     obtain ⟨r,hra,hyr⟩:=List.mem_flatMap.1 hy
     have e2:=zq1 hyr
     refine .inl (.inl ⟨r,hra,?_⟩)
     rw [← e2,e]
     exact (zj2 hr).2 m
  ·obtain ⟨m1,m2⟩:=List.mem_filter.1 m
   refine .inl (.inr ⟨m1,?_,by simpa using m2⟩)
   cases hh:hasK rs (hd x) with
   | false=>rfl
   | true=>
     obtain ⟨y,hy,e3⟩:=ZG.1 hh
     exact absurd e3.symm (e y hy)
end Go.Proofs
namespace Go.Proofs
open Go Go.TL
set_option maxRecDepth 4000
set_option maxHeartbeats 8000000
open So
theorem Yz (l:List (List Int)) (x:(List Int)) (i:Nat) (hi:i≤l.length) (hl:l.length < 1000000000000) :
 Spc Tryz.prog kv [.vw 0 l.length 0 l.length,vI i,.sl 1 [vIs x]] [(0,.arr 1 (l.map vIs) false)] (.asl 1 (l.length + 1)) [(0,.dead),(1,.arr 1 ((l.take i ++ x :: l.drop i).map vIs) false)]:=by
 refine QL [7,8,10] WD mixm (by simp) fun e _ hst=>qh ?_
 unfold jS
 simp only [JX,List.contains_cons,List.contains_nil,Nat.reduceBEq,Bool.or_false,Bool.or_true,Bool.true_or,Bool.false_or,cond_true,cond_false]
 simp only [tl,tl2,tl4,↓un_u,zd,entX,QJ,ret,retI,retB,intT,unT,endR,JY,resR,tupT,bslR,boxR,yD,↓reduceIte,Nat.reduceEqDiff,Nat.reduceAdd,Nat.reduceMul,Nat.reduceLT,Nat.reduceLeDiff,reduceCtorEq,Int.reduceLE,Int.reduceLT,ne_eq,Int.reduceEq,not_false_eq_true,decide_true,decide_false,Int.reduceToNat,tl3,Int.reduceBNe,Int.reduceBEq,rmK,rm1,not_true_eq_false,List.drop_zero,List.take_of_length_le (show (l.map vIs).length≤l.length by simp),show (((1:Nat):Int) == 0) = false from rfl]
 have e1:(i:Int).toNat = i:=Int.toNat_natCast _
 refine ⟨by omega,fun h=>?_,fun h=>?_⟩
 ·have h2:i = l.length:=by have:=beq_iff_eq.1 h;omega
  subst h2
  refine W_le _ _ (Le.cut 0 5 l.length (by rfl) (by rfl) (by simp)) ?_
  simp only [jb3,QK,cut2,cut1,cut0]
  simp only [tl,tl2,tl4,↓un_u,zd,entX,QJ,ret,retI,retB,intT,unT,endR,JY,resR,tupT,bslR,boxR,yD,↓reduceIte,Nat.reduceEqDiff,Nat.reduceAdd,Nat.reduceMul,Nat.reduceLT,Nat.reduceLeDiff,reduceCtorEq,Int.reduceLE,Int.reduceLT,ne_eq,Int.reduceEq,not_false_eq_true,decide_true,decide_false,Int.reduceToNat,tl3,Int.reduceBNe,Int.reduceBEq,rmK,rm1,not_true_eq_false,List.length_map,List.take_of_length_le (show (l.map vIs).length≤l.length by simp)]
  refine ⟨by omega,?_⟩
  refine .of [(0,some 0),(1,some 5)] [] rfl (by first | rfl | (rw [hst];rfl)) ?_ ?_
  all_goals (try simp only [wh,ltO2,ltO1,ltAs,ltA,ltC,ltC0,YO,ltCs,ltT,ltFr,ltS,wrOk,wrO,TL.get,Yl,↓reduceIte,Nat.reduceEqDiff,reduceCtorEq,Option.getD_some,Option.isSome_some,List.length_map,List.length_append,List.length_cons,List.length_nil,List.append_nil,List.mem_singleton,List.mem_cons,List.not_mem_nil,and_true,true_and,and_self,imp_self,forall_const,false_implies,implies_true,true_implies,or_false,Bool.false_eq_true,Bool.true_eq_false,Ka,true_or,or_true,false_or,false_and,and_false,rmK,rm1,List.map_append,List.map_cons,List.map_nil,List.cons_append,List.nil_append,List.take_length,List.drop_length])
  all_goals (try (repeat' (first | exact qZ | (apply zN;intro _;exact ⟨rfl,rfl⟩) | (apply qA;intro _;exact ⟨rfl,rfl⟩) | with_reducible apply za | with_reducible refine zo ⟨rfl,rfl⟩ ?_ | exact zO | with_reducible apply qV | with_reducible refine qJ ⟨rfl,rfl,?_⟩ ?_ | with_reducible apply And.intro | exact qW rfl | exact qW (by assumption) | (refine ⟨⟨?_,rfl,?_,rfl,?_⟩,trivial⟩ <;> first | (simp;done) | (apply qA;intro _;exact ⟨rfl,rfl⟩)) | trivial | rfl | (rw [qg (by omega)]) | omega)))
 have h2:i < l.length:=by have:=beq_eq_false_iff_ne.1 h;omega
 refine jz4 0 (by rfl) (by rfl) fun c hc1 hc2=>?_
 simp only [zD9,qk3,jd5]
 rw [List.length_map] at hc1
 have hw:IntKind.i64.wrap ((l.length:Int) + ((1:Nat):Int)) = ((l.length + 1:Nat):Int):=by rw [IntWalk.i64_in _ (by omega)];omega
 have hw2:IntKind.i64.wrap (((l.length + 1:Nat):Int) - (i:Int)) = ((l.length + 1 - i:Nat):Int):=by rw [IntWalk.i64_in _ (by omega)];omega
 have hw3:IntKind.i64.wrap ((i:Int) + ((1:Nat):Int)) = ((i + 1:Nat):Int):=by rw [IntWalk.i64_in _ (by omega)];omega
 have e2:((l.length + 1:Nat):Int).toNat = l.length + 1:=Int.toNat_natCast _
 have e3:((i + 1:Nat):Int).toNat = i + 1:=Int.toNat_natCast _
 have e4:((l.length + 1 - i:Nat):Int).toNat = l.length + 1 - i:=Int.toNat_natCast _
 have e5:((c:Nat):Int).toNat = c:=Int.toNat_natCast _
 obtain ⟨J,hJ⟩:∃ J,J = List.replicate (c - l.length) (qt8 1):=⟨_,rfl⟩
 have hJl:J.length = c - l.length:=by rw [hJ,List.length_replicate]
 simp only [List.length_map,← hJ]
 simp only [tl,tl2,tl4,↓un_u,zd,entX,QJ,ret,retI,retB,intT,unT,endR,JY,resR,tupT,bslR,boxR,yD,↓reduceIte,Nat.reduceEqDiff,Nat.reduceAdd,Nat.reduceMul,Nat.reduceLT,Nat.reduceLeDiff,reduceCtorEq,Int.reduceLE,Int.reduceLT,ne_eq,Int.reduceEq,not_false_eq_true,decide_true,decide_false,Int.reduceToNat,tl3,Int.reduceBNe,Int.reduceBEq,rmK,rm1,not_true_eq_false,List.length_map,e1,e2,e3,e4,e5,hw,hw2,hw3,hJl,Nat.sub_zero,Nat.zero_add,List.drop_zero,decide_eq_true_eq,decide_eq_false_iff_not]
 refine ⟨by omega,fun h3=>⟨by omega,by omega,?_⟩,fun h3=>⟨by omega,?_⟩⟩
 ·have h4:c = l.length:=by omega
  subst h4
  have hJ0:J = []:=List.eq_nil_of_length_eq_zero (by rw [hJl];omega)
  clear hJ
  subst hJ0
  have e6:i + (l.length + 1 - i) = l.length + 1:=by omega
  simp only [List.append_nil,← List.map_take,e6]
  have hz:∀ m,ImXs 1 (List.replicate m (.v (.slice none 0 0))):=fun m y hy=>by rw [(List.mem_replicate.1 hy).2];exact ⟨rfl,rfl⟩
  refine W_le [(0,.vw 0 l.length 0 l.length),(1,vI i),(2,.sl 1 [vIs x]),(7,vI (1:Nat)),(9,.vw 40992 (l.length + 1) 0 (l.length + 1))] [(0,.arr 1 (l.map vIs) false),(40992,.arr 1 ((l.take i).map vIs ++ List.replicate (l.length + 1 - i) (.v (.slice none 0 0))) false)] ?_ ?_
  ·refine .of [(0,some 0),(40992,some 40992)] [] rfl (by first | rfl | (rw [hst];rfl)) ?_ ?_
   all_goals (try simp only [wh,ltO2,ltO1,ltAs,ltA,ltC,ltC0,YO,ltCs,ltT,ltFr,ltS,wrOk,wrO,TL.get,Yl,↓reduceIte,Nat.reduceEqDiff,reduceCtorEq,Option.getD_some,Option.isSome_some,List.length_map,List.length_append,List.length_cons,List.length_nil,List.append_nil,List.mem_singleton,List.mem_cons,List.not_mem_nil,and_true,true_and,and_self,imp_self,forall_const,false_implies,implies_true,true_implies,or_false,Bool.false_eq_true,Bool.true_eq_false,Ka,true_or,or_true,false_or,false_and,and_false,rmK,rm1,List.map_append,List.map_cons,List.map_nil,List.cons_append,List.nil_append])
   all_goals (try (repeat' (first | exact qZ | (apply zN;intro _;exact ⟨rfl,rfl⟩) | (apply qA;intro _;exact ⟨rfl,rfl⟩) | with_reducible apply za | with_reducible refine zo ⟨rfl,rfl⟩ ?_ | exact zO | with_reducible apply qV | with_reducible refine qJ ⟨rfl,rfl,?_⟩ ?_ | with_reducible apply And.intro | exact qW rfl | exact qW (by assumption) | (refine ⟨⟨?_,rfl,?_,rfl,?_⟩,trivial⟩ <;> first | (simp;done) | (apply qA;intro _;exact ⟨rfl,rfl⟩)) | trivial | rfl | (rw [qg (by omega)]) | omega)))
   exact zw (hz _)
  have k1:min 1 (l.length + 1 - i) = 1:=by omega
  have k2:min i l.length = i:=by omega
  have k3:min (l.length - i) (l.length + 1 - (i + 1)) = l.length - i:=by omega
  have k4:(1:Nat) + (l.length + 1 - i - 1) = l.length + 1 - i:=by omega
  simp only [tl,tl2,tl4,↓un_u,zd,entX,QJ,ret,retI,retB,intT,unT,endR,JY,resR,tupT,bslR,boxR,yD,↓reduceIte,Nat.reduceEqDiff,Nat.reduceAdd,Nat.reduceMul,Nat.reduceLT,Nat.reduceLeDiff,reduceCtorEq,Int.reduceLE,Int.reduceLT,ne_eq,Int.reduceEq,not_false_eq_true,decide_true,decide_false,Int.reduceToNat,tl3,Int.reduceBNe,Int.reduceBEq,rmK,rm1,not_true_eq_false,List.length_map,List.length_append,List.length_replicate,List.length_take,List.length_drop,e1,e2,e3,e4,e5,hw,hw2,hw3,Nat.sub_zero,Nat.zero_add,List.drop_zero,k1,k2,k3,Nat.min_self,e6]
  refine ⟨by omega,by omega,by omega,by omega,by omega,by kernel_rfl,?_⟩
  rw [je2 (l.map vIs) ((l.take i).map vIs) (List.replicate (l.length + 1 - i) (.v (.slice none 0 0))) (vIs x) i l.length (by simp) (by simp;omega) (by simp) h2]
  refine .cutv 1 rfl ?_ rfl ?_ ?_
  ·simp only [List.length_append,List.length_drop,List.length_map,List.length_cons,List.length_take];omega
  ·simp only [List.length_append,List.length_drop,List.length_map,List.length_cons,List.length_take];omega
  simp only [QK]
  rw [List.take_of_length_le (by simp only [List.length_append,List.length_drop,List.length_map,List.length_cons,List.length_take];omega)]
  simp only [List.map_append,List.map_cons,List.map_drop]
  refine .of [(0,some 0),(1,some 1)] [] rfl (by first | rfl | (rw [hst];rfl)) ?_ ?_
  all_goals (try simp only [wh,ltO2,ltO1,ltAs,ltA,ltC,ltC0,YO,ltCs,ltT,ltFr,ltS,wrOk,wrO,TL.get,Yl,↓reduceIte,Nat.reduceEqDiff,reduceCtorEq,Option.getD_some,Option.isSome_some,List.length_map,List.length_append,List.length_cons,List.length_nil,List.append_nil,List.mem_singleton,List.mem_cons,List.not_mem_nil,and_true,true_and,and_self,imp_self,forall_const,false_implies,implies_true,true_implies,or_false,Bool.false_eq_true,Bool.true_eq_false,Ka,true_or,or_true,false_or,false_and,and_false,rmK,rm1,List.map_append,List.map_cons,List.map_nil,List.cons_append,List.nil_append])
  all_goals (try (repeat' (first | exact qZ | (apply zN;intro _;exact ⟨rfl,rfl⟩) | (apply qA;intro _;exact ⟨rfl,rfl⟩) | with_reducible apply za | with_reducible refine zo ⟨rfl,rfl⟩ ?_ | exact zO | with_reducible apply qV | with_reducible refine qJ ⟨rfl,rfl,?_⟩ ?_ | with_reducible apply And.intro | exact qW rfl | exact qW (by assumption) | (refine ⟨⟨?_,rfl,?_,rfl,?_⟩,trivial⟩ <;> first | (simp;done) | (apply qA;intro _;exact ⟨rfl,rfl⟩)) | trivial | rfl | (rw [qg (by omega)]) | omega)))
  all_goals (simp only [← List.map_drop,← List.map_take];apply zN;intro _;exact ⟨rfl,rfl⟩)
 refine ⟨by omega,?_⟩
 refine C1.ovl JK (by decide) rfl rfl (by rw [List.length_append,List.length_map,hJl];omega) ?_
 have k1:min 1 (l.length + 1 - i) = 1:=by omega
 have k2:l.length + (c - l.length) = c:=by omega
 have k3:min (min (l.length + 1 - i) (c - i)) (l.length + 1 - (i + 1)) = l.length - i:=by omega
 have k4:min (i + 1) c = i + 1:=by omega
 simp only [tl,tl2,tl4,↓un_u,zd,entX,QJ,ret,retI,retB,intT,unT,endR,JY,resR,tupT,bslR,boxR,yD,↓reduceIte,Nat.reduceEqDiff,Nat.reduceAdd,Nat.reduceMul,Nat.reduceLT,Nat.reduceLeDiff,reduceCtorEq,Int.reduceLE,Int.reduceLT,ne_eq,Int.reduceEq,not_false_eq_true,decide_true,decide_false,Int.reduceToNat,tl3,Int.reduceBNe,Int.reduceBEq,rmK,rm1,not_true_eq_false,List.length_map,List.length_append,List.length_take,List.length_drop,hJl,e1,e2,e3,e4,e5,hw,hw2,hw3,Nat.sub_zero,Nat.zero_add,List.drop_zero,k1,k2,k3,k4,Nat.min_self]
 refine ⟨by omega,by omega,by omega,by kernel_rfl,by omega,by omega,?_⟩
 rw [je1 (l.map vIs) J (vIs x) i l.length (by simp) h2]
 have hfl:(List.take i (List.map vIs l) ++ vIs x :: List.drop i (List.map vIs l)).length = l.length + 1:=by
  simp only [List.length_append,List.length_drop,List.length_map,List.length_cons,List.length_take];omega
 refine .cutv 1 rfl ?_ rfl ?_ ?_
 ·rw [List.length_append,hfl,List.length_drop,hJl];omega
 ·rw [List.length_append,hfl,List.length_drop,hJl];omega
 simp only [QK]
 rw [List.take_append_of_le_length (by rw [hfl];exact Nat.le_refl _),List.take_of_length_le (by rw [hfl];exact Nat.le_refl _)]
 simp only [List.map_append,List.map_cons,List.map_drop,List.map_take]
 refine .of [(0,some 0),(1,some 1)] [] rfl (by first | rfl | (rw [hst];rfl)) ?_ ?_
 all_goals (try simp only [wh,ltO2,ltO1,ltAs,ltA,ltC,ltC0,YO,ltCs,ltT,ltFr,ltS,wrOk,wrO,TL.get,Yl,↓reduceIte,Nat.reduceEqDiff,reduceCtorEq,Option.getD_some,Option.isSome_some,List.length_map,List.length_append,List.length_cons,List.length_nil,List.append_nil,List.mem_singleton,List.mem_cons,List.not_mem_nil,and_true,true_and,and_self,imp_self,forall_const,false_implies,implies_true,true_implies,or_false,Bool.false_eq_true,Bool.true_eq_false,Ka,true_or,or_true,false_or,false_and,and_false,rmK,rm1,List.map_append,List.map_cons,List.map_nil,List.cons_append,List.nil_append])
 all_goals (try (repeat' (first | exact qZ | (apply zN;intro _;exact ⟨rfl,rfl⟩) | (apply qA;intro _;exact ⟨rfl,rfl⟩) | with_reducible apply za | with_reducible refine zo ⟨rfl,rfl⟩ ?_ | exact zO | with_reducible apply qV | with_reducible refine qJ ⟨rfl,rfl,?_⟩ ?_ | with_reducible apply And.intro | exact qW rfl | exact qW (by assumption) | (refine ⟨⟨?_,rfl,?_,rfl,?_⟩,trivial⟩ <;> first | (simp;done) | (apply qA;intro _;exact ⟨rfl,rfl⟩)) | trivial | rfl | (rw [qg (by omega)]) | omega)))
 all_goals (simp only [← List.map_drop,← List.map_take];apply zN;intro _;exact ⟨rfl,rfl⟩)
end Go.Proofs
namespace Go.Proofs
open Go Go.TL
set_option maxRecDepth 4000
section
variable {P:Program} {st:Sto} {e:Env} {kss:List (Nat×List Nat)} {Q:Ex→St→Prop} {K:List KF} {rows:Option (List Nat)} {ks:List Nat} {nid:Nat} {ops:List ROp} {F:XF} {acc:Acc}
theorem C1.cutbackF {fid:FuncId} {caps xs ts':List T} {d:Option Nat} {ys zs bs:List T} {m kj:Nat} {fz:Bool} (id nid' k j:Nat) (hs:Spc P fid ts' [(0,.arr k zs false)] (.asl 1 m) [(0,.dead),(1,.arr k ys false)]) (hg:TL.get st id = some (.arr k zs false)) (hj:TL.get st j = some (.arr kj bs fz)) (hz:ImXs k zs) (hy:ImXs k ys)
 (hn:TL.get st nid' = none) (hne2:id≠j) (ha:ltAs st [(0,some id)] [j] (xs ++ caps) ts')
 (h:R P e kss Q rows ks K nid ops (putX F d (.p (.asl nid' m))) (stUp st [(id,.dead),(nid',.arr k ys false),(j,.arr kj bs true)]) (acc ++ [([j] ++ [id,nid',j],[id,nid',j])])):C1 P e kss Q rows ks K (.clo fid caps) xs d nid ops F st acc:=by
 have hne:id≠nid':=fun e=>by subst e;rw [hg] at hn;cases hn
 have hne3:nid'≠j:=fun e=>by subst e;rw [hj] at hn;cases hn
 refine C1.of [(0,some id)] [(nid',some 1)] [j] [(id,.dead),(nid',.arr k ys false),(j,.arr kj bs true)] hs ha (by simp [ku,TL.get]) ?_ (by simp;exact fun e=>hne2 e.symm) (by simp [TL.get]) ?_ ?_ (by rfl) ?_ (.inl ?_) h
 ·refine ⟨?_,trivial⟩
  simp only [TL.get,if_true,ltO2,hg,ltO1]
  refine ⟨trivial,by simp,zw hz,fun hb=>?_⟩
  simp at hb
  exact absurd hb hne2
 ·refine ⟨?_,?_,trivial⟩
  ·simp only [TL.get,if_true,wrO,ltO1,Nat.reduceEqDiff,↓reduceIte,reduceCtorEq]
   exact ⟨⟨trivial,by simp,zw hy,by simp⟩,.inl hn⟩
  ·rw [show TL.get [(nid',some 1)] j = none by simp [TL.get,hne3]]
   refine ⟨rfl,?_,?_⟩
   ·rw [hj];exact ⟨rfl,rfl⟩
   ·intro p hp
    simp at hp
    subst hp
    simp
    exact hne2
 ·simp [ku,TL.get,hne]
 ·exact ⟨by simp [TL.get],rfl⟩
 ·simp [fzOk,TL.get,hne2,hne3]
theorem C1.cut0 {fid:FuncId} {caps xs ts':List T} {d:Option Nat} {ys zs:List T} {m:Nat} (id nid' k:Nat) (hs:Spc P fid ts' [(0,.arr k zs false)] (.asl 1 m) [(0,.dead),(1,.arr k ys false)]) (hg:TL.get st id = some (.arr k zs false)) (hz:ImXs k zs) (hy:ImXs k ys)
 (hn:TL.get st nid' = none) (ha:ltAs st [(0,some id)] [] (xs ++ caps) ts')
 (h:R P e kss Q rows ks K nid ops (putX F d (.p (.asl nid' m))) (stUp st [(id,.dead),(nid',.arr k ys false)]) (acc ++ [([] ++ [id,nid'],[id,nid'])])):C1 P e kss Q rows ks K (.clo fid caps) xs d nid ops F st acc:=by
 have hne:id≠nid':=fun e=>by subst e;rw [hg] at hn;cases hn
 refine C1.of [(0,some id)] [(nid',some 1)] [] [(id,.dead),(nid',.arr k ys false)] hs ha (by simp [ku,TL.get]) ?_ (by rfl) (by simp [TL.get]) ?_ ?_ (by rfl) ?_ (.inl (by rfl)) h
 ·refine ⟨?_,trivial⟩
  simp only [TL.get,if_true,ltO2,hg,ltO1]
  exact ⟨trivial,by simp,zw hz,by simp⟩
 ·refine ⟨?_,trivial⟩
  simp only [TL.get,if_true,wrO,ltO1,Nat.reduceEqDiff,↓reduceIte,reduceCtorEq]
  exact ⟨⟨trivial,by simp,zw hy,by simp⟩,.inl hn⟩
 ·simp [ku,TL.get,hne]
 ·exact ⟨by simp [TL.get],rfl⟩
end
end Go.Proofs
