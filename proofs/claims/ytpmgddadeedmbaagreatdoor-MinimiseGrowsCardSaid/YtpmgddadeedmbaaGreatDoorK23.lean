/- A part of the proof: D10 T05 T06. -/
import Derived.WalkKit
import Derived.Still
import Derived.MapKept
import GoSem.Builtin.Cap
import Derived.Laws.Externs
import GoSem.Extern.SlicesOverlaps
import Derived.Carry
import Derived.ProofKit
import Derived.OpenShut
import Derived.HandedShaped
import Derived.Lay
import Derived.LaidLaws
import Derived.MakeChecks
import Derived.SevenTiedAt
import Derived.Test.YtpmgddadeedmbaaGreatDoorChecked
import Derived.Test.YtpmgddadeedmbaaGreatDoorK22
set_option linter.unusedSimpArgs false
set_option linter.unusedVariables false
namespace Go.Proofs
open Go Go.TL
set_option maxRecDepth 4000
set_option maxHeartbeats 8000000
theorem nm_p:∀ n:Nat,n < 10→jh ⟨#[112,dgt n]⟩ = true∧jh ⟨#[113,dgt n]⟩ = true:=by
 have:∀ n:Fin 10,jh ⟨#[112,dgt n.1]⟩ = true∧jh ⟨#[113,dgt n.1]⟩ = true:=by decide +kernel
 exact fun n h=>this ⟨n,h⟩
theorem ju2:∀ i j:Nat,i < 10→j < 10→i≠j→eqB ⟨#[113,dgt i]⟩ ⟨#[113,dgt j]⟩ = false:=by
 have:∀ i j:Fin 10,i.1≠j.1→eqB ⟨#[113,dgt i.1]⟩ ⟨#[113,dgt j.1]⟩ = false:=by decide +kernel
 exact fun i j hi hj h=>this ⟨i,hi⟩ ⟨j,hj⟩ h
def qx7:ByteArray:=⟨#[115,114,99]⟩
theorem ju3:jh qx7 = true:=by decide +kernel
abbrev dcl0:Dcl:=⟨⟨#[]⟩,⟨#[]⟩,cnd0,⟨0,0,0⟩,[]⟩
theorem ju4 {s:Sch} {P:Nat} {c:Cnd} {x:Smp} {qs:List Qst} {N:Nat} (hE:schE s = 0) (hP:P < 10) (hc:chkC s c = 0) (hx:smpE x = 0) (h1:1≤qs.length) (hN:qs.length = N) (hN3:N≤3) (hq:∀ i (h:i < qs.length),qstE s qs[i] = 0∧qs[i].name = ⟨#[113,dgt (N - i)]⟩) :
 dclE s ⟨⟨#[112,dgt P]⟩,qx7,c,x,qs⟩ = 0:=by
 rw [dclE,if_neg (by rw [hE];simp),if_neg (by rw [(nm_p P hP).1,ju3];simp),if_neg (by rw [hc];simp),if_neg (by rw [hx];simp),if_neg (by dsimp only;omega)]
 refine Km fun i hi=>?_
 have hi:i < qs.length:=hi
 have hpi:qAt qs i = qs[i]:=by rw [qAt,qk hi]
 obtain ⟨a,b⟩:=hq i hi
 rw [qsE,hpi,if_neg (by rw [a];simp),if_neg]
 intro k
 obtain ⟨x,hx,e⟩:=List.any_eq_true.1 k
 obtain ⟨j,hj,rfl⟩:=List.mem_take_iff_getElem.1 hx
 have hj2:j < i∧j < qs.length:=by have:j < min i qs.length:=hj;omega
 rw [b,(hq j (by omega)).2,ju2 (N - j) (N - i) (by omega) (by omega) (by omega)] at e
 cases e
structure DrD (s:Sch) (d:Dcl):Prop where
 len:d.qs.length≤3
 nm:∀ q∈d.qs,∃ n,n < 10∧q.name = ⟨#[113,dgt n]⟩
 coh:CndOk s 1 d.coh
theorem qW2 {s:Sch} {P:Nat} {c:Cnd} {x:Smp} {qs:List Qst} {N:Nat} (hE:schE s = 0) (hP:P < 10) (hco:CndOk s 1 c) (hc:chkC s c = 0) (hx:smpE x = 0) (h1:1≤qs.length) (hN:qs.length = N) (hN3:N≤3) (hq:∀ i (h:i < qs.length),qstE s qs[i] = 0∧qs[i].name = ⟨#[113,dgt (N - i)]⟩) :
 dclE s ⟨⟨#[112,dgt P]⟩,qx7,c,x,qs⟩ = 0∧DrD s ⟨⟨#[112,dgt P]⟩,qx7,c,x,qs⟩:=
 ⟨ju4 hE hP hc hx h1 hN hN3 hq,by dsimp only;omega,fun q hq2=>by
   obtain ⟨i,hi,rfl⟩:=List.getElem_of_mem hq2
   exact ⟨N - i,by omega,(hq i hi).2⟩,hco⟩
theorem JT (s:Sch) (hd:DrS s) (l:List UInt8) (a:Nat) (hl:l.length≤400) (ha:a≤l.length) :
 ∃ r:Dcl×Nat,((dclE s r.1 = 0∧DrD s r.1)∧r.2≤l.length)∧Spc Tryz.prog js [.ptr 0 1 0 0,schT s] [(0,oC l a)] (dclT r.1) [(0,oC l r.2)]:=by
 have hE:=hd.ok
 have hok:=qZ hE
 obtain ⟨p,a1,p1,p2,ha1,sP⟩:=QD l a 3 hl ha (by omega)
 obtain ⟨P,rfl⟩:=Int.eq_ofNat_of_zero_le p1
 have hIt:=qm7 P (by omega)
 obtain ⟨⟨c0,a2⟩,⟨hc0,ha2⟩,sC⟩:=Qp s hd l hl 1 a1 ha1 (by omega)
 dsimp only at hc0 ha2 sC
 have hcf0:=hc0.chk hE (by omega)
 have hca:chkC s (.mk 1 0 0 0 0 []) = 0:=(wP (s:=s) 1 (qG3 s) rfl).chk hE (by omega)
 obtain ⟨sd,a3,sd1,sd2,ha3,sS⟩:=QD l a2 999 hl ha2 (by omega)
 obtain ⟨o1,a4,ha4,sO⟩:=jb3 l a3 3 hl ha3 (by omega)
 obtain ⟨o2,a5,ha5,sO2⟩:=jb3 l a4 3 hl ha4 (by omega)
 obtain ⟨f,a6,f1,f2,ha6,sF⟩:=Yz l a5 2 5 hl ha5 (by omega) (by omega)
 obtain ⟨g,a7,g1,g2,ha7,sG⟩:=Yz l a6 1 f hl ha6 (by omega) (by omega)
 obtain ⟨ra,ba,ra1,ra2,hba,sRa⟩:=Yz l a5 1 3 hl ha5 (by omega) (by omega)
 obtain ⟨Na,rfl⟩:=Int.eq_ofNat_of_zero_le (show 0≤ra by omega)
 obtain ⟨rb,bb,rb1,rb2,hbb,sRb⟩:=Yz l a7 1 3 hl ha7 (by omega) (by omega)
 obtain ⟨Nb,rfl⟩:=Int.eq_ofNat_of_zero_le (show 0≤rb by omega)
 refine jF Jv mixm (fun r:Dcl×Nat=>dclT r.1) (fun r=>[(0,oC l r.2)]) (by simp) ?_
 unfold jl
 refine sW ?_
 refine XE.mp (fun _ _=>C1.draw 0 l a _ sP rfl rfl rfl) ?_
 refine sW ?_
 refine XE.mp (fun _ _=>C1.im hIt (by rfl) (by rfl)) ?_
 simp only [tZ,↓un_u,simprocAttr,qm6]
 refine XE.sd (show 1 + 1≤9223372036854775807 by omega) ?_
 refine XE.mp (fun _ _=>C1.draw 0 l a1 _ sC rfl rfl rfl) ?_
 refine sW ?_
 refine XE.mp (fun _ _=>C1.draw 0 l a2 _ sS rfl rfl rfl) ?_
 refine sW ?_
 refine XE.sd (by kernel_rfl) ?_
 refine XE.mp (fun _ _=>C1.draw 0 l a3 _ sO rfl rfl rfl) ?_
 refine sW ?_
 apply XE.brB
 ·intro h1
  refine XE.mp (fun _ _=>C1.draw 0 l a4 _ sO2 rfl rfl rfl) ?_
  refine sW ?_
  apply XE.brB
  focus
   intro h2
   refine XE.mp (fun _ _=>C1.draw 0 l a5 _ sF rfl rfl rfl) ?_
   refine sW ?_
   refine XE.mp (fun _ _=>C1.draw 0 l a6 _ sG rfl rfl rfl) ?_
   refine sW ?_
   refine XE.mp (fun _ _=>C1.draw 0 l a7 _ (sRb) rfl rfl rfl) ?_
   refine sW ?_
   refine XE.loopF mixm [6,19,23] (fun y:List Qst×Nat=>y.1.length≤Nb∧(∀ i (h:i < y.1.length),qstE s y.1[i] = 0∧y.1[i].name = ⟨#[113,dgt (Nb - i)]⟩)∧y.2≤l.length) (fun y=>[(6,vI ((Nb - y.1.length:Nat):Int))]) (fun y=>[(0,oC l y.2),(4096,.arr 2 [schT s] false),(4100,.arr 12 [dclT dcl0] false),(8236,.arr 12 [.agg [vS ⟨#[112,dgt P]⟩,vS qx7,vI ((.mk 1 0 0 0 0 []):Cnd).op,vI ((.mk 1 0 0 0 0 []):Cnd).col,vI ((.mk 1 0 0 0 0 []):Cnd).code,vI ((.mk 1 0 0 0 0 []):Cnd).lo,vI ((.mk 1 0 0 0 0 []):Cnd).hi,vCs ((.mk 1 0 0 0 0 []):Cnd).kids,vI g,vI f,vI sd,.asl 1 y.1.length]] false),(1,.arr 17 (y.1.map qstT) false)]) (fun y=>Nb - y.1.length) ([],bb) ⟨by simp,fun i h=>by simp at h,hbb⟩ (fun e ⟨_,hst⟩=>?_) fun T' y hy ih=>?_
   ·exact .oA [(0,some 0),(4096,some 4096),(4100,some 4100),(8236,some 8236),(1,none)] []
   obtain ⟨qs,a8⟩:=y
   obtain ⟨y1,y2,y3⟩:=hy
   dsimp only at y1 y2 y3
   simp only [tZ,↓un_u,simprocAttr,decide_eq_true_eq,decide_eq_false_iff_not]
   refine XE.brN (fun h4=>?_) (fun h4=>?_)
   ·have hlt:qs.length < Nb:=by omega
    have hI:=qm7 (Nb - qs.length) (by omega)
    obtain ⟨⟨q,a9⟩,⟨⟨hq,hqn⟩,ha9⟩,sQ⟩:=zt s hd ⟨#[113,dgt (Nb - qs.length)]⟩ (nm_p _ (by omega)).2 l a8 hl y3
    dsimp only at hq hqn ha9 sQ
    have hwk:=yb (i:=Nb - qs.length) (by omega) (by omega)
    refine XE.mp (fun _ _=>C1.im hI (by rfl) (by rfl)) ?_
    simp only [tZ,↓un_u,simprocAttr,qm6]
    refine XE.sd (show 1 + 1≤9223372036854775807 by omega) ?_
    refine XE.mp (fun _ _=>C1.draw 0 l a8 _ sQ rfl rfl rfl) ?_
    simp only [tZ,↓un_u,simprocAttr,hwk]
    refine XE.sd (by omega) (XE.sd (by kernel_rfl) ?_)
    refine XE.next ih (qs ++ [q],a9) ⟨by simp;omega,fun i h=>?_,ha9⟩ (by simp;omega) fun e ⟨_,hst⟩=>?_
    ·dsimp only at h ⊢
     by_cases hi:i < qs.length
     ·rw [List.getElem_append_left hi]
      exact y2 i hi
     ·have he:i = qs.length:=by rw [List.length_append] at h;simp at h;omega
      subst he
      rw [List.getElem_append_right (Nat.le_refl _)]
      simpa using And.intro hq hqn
    ·have e1:Nb - (qs ++ [q]).length = Nb - qs.length - 1:=by rw [List.length_append];simp;omega
     simp only [e1]
     exact .oA [(0,some 0),(4096,some 4096),(4100,some 4100),(8236,some 8236),(1,some 1)] []
   ·refine XE.fin (⟨⟨#[112,dgt P]⟩,qx7,(.mk 1 0 0 0 0 []),⟨g,f,sd⟩,qs⟩,a8) ⟨qW2 hE (by omega) (wP (s:=s) 1 (qG3 s) rfl) hca (by rw [smpE,if_neg];dsimp only;omega) (by omega) rfl (by omega) (fun i h=>by have:=y2 i h;rwa [show Nb = qs.length by omega] at this),y3⟩ fun e ⟨_,hst⟩=>?_
    exact .oA [(0,some 0)] [1]
  focus
   intro h2
   refine XE.mp (fun _ _=>C1.draw 0 l a5 _ (sRa) rfl rfl rfl) ?_
   refine sW ?_
   refine XE.loopF mixm [6,19,23] (fun y:List Qst×Nat=>y.1.length≤Na∧(∀ i (h:i < y.1.length),qstE s y.1[i] = 0∧y.1[i].name = ⟨#[113,dgt (Na - i)]⟩)∧y.2≤l.length) (fun y=>[(6,vI ((Na - y.1.length:Nat):Int))]) (fun y=>[(0,oC l y.2),(4096,.arr 2 [schT s] false),(4100,.arr 12 [dclT dcl0] false),(8236,.arr 12 [.agg [vS ⟨#[112,dgt P]⟩,vS qx7,vI ((.mk 1 0 0 0 0 []):Cnd).op,vI ((.mk 1 0 0 0 0 []):Cnd).col,vI ((.mk 1 0 0 0 0 []):Cnd).code,vI ((.mk 1 0 0 0 0 []):Cnd).lo,vI ((.mk 1 0 0 0 0 []):Cnd).hi,vCs ((.mk 1 0 0 0 0 []):Cnd).kids,vI 1,vI 1,vI sd,.asl 1 y.1.length]] false),(1,.arr 17 (y.1.map qstT) false)]) (fun y=>Na - y.1.length) ([],ba) ⟨by simp,fun i h=>by simp at h,hba⟩ (fun e ⟨_,hst⟩=>?_) fun T' y hy ih=>?_
   ·exact .oA [(0,some 0),(4096,some 4096),(4100,some 4100),(8236,some 8236),(1,none)] []
   obtain ⟨qs,a8⟩:=y
   obtain ⟨y1,y2,y3⟩:=hy
   dsimp only at y1 y2 y3
   simp only [tZ,↓un_u,simprocAttr,decide_eq_true_eq,decide_eq_false_iff_not]
   refine XE.brN (fun h4=>?_) (fun h4=>?_)
   ·have hlt:qs.length < Na:=by omega
    have hI:=qm7 (Na - qs.length) (by omega)
    obtain ⟨⟨q,a9⟩,⟨⟨hq,hqn⟩,ha9⟩,sQ⟩:=zt s hd ⟨#[113,dgt (Na - qs.length)]⟩ (nm_p _ (by omega)).2 l a8 hl y3
    dsimp only at hq hqn ha9 sQ
    have hwk:=yb (i:=Na - qs.length) (by omega) (by omega)
    refine XE.mp (fun _ _=>C1.im hI (by rfl) (by rfl)) ?_
    simp only [tZ,↓un_u,simprocAttr,qm6]
    refine XE.sd (show 1 + 1≤9223372036854775807 by omega) ?_
    refine XE.mp (fun _ _=>C1.draw 0 l a8 _ sQ rfl rfl rfl) ?_
    simp only [tZ,↓un_u,simprocAttr,hwk]
    refine XE.sd (by omega) (XE.sd (by kernel_rfl) ?_)
    refine XE.next ih (qs ++ [q],a9) ⟨by simp;omega,fun i h=>?_,ha9⟩ (by simp;omega) fun e ⟨_,hst⟩=>?_
    ·dsimp only at h ⊢
     by_cases hi:i < qs.length
     ·rw [List.getElem_append_left hi]
      exact y2 i hi
     ·have he:i = qs.length:=by rw [List.length_append] at h;simp at h;omega
      subst he
      rw [List.getElem_append_right (Nat.le_refl _)]
      simpa using And.intro hq hqn
    ·have e1:Na - (qs ++ [q]).length = Na - qs.length - 1:=by rw [List.length_append];simp;omega
     simp only [e1]
     exact .oA [(0,some 0),(4096,some 4096),(4100,some 4100),(8236,some 8236),(1,some 1)] []
   ·refine XE.fin (⟨⟨#[112,dgt P]⟩,qx7,(.mk 1 0 0 0 0 []),⟨1,1,sd⟩,qs⟩,a8) ⟨qW2 hE (by omega) (wP (s:=s) 1 (qG3 s) rfl) hca (by rw [smpE,if_neg];dsimp only;omega) (by omega) rfl (by omega) (fun i h=>by have:=y2 i h;rwa [show Na = qs.length by omega] at this),y3⟩ fun e ⟨_,hst⟩=>?_
    exact .oA [(0,some 0)] [1]
 ·intro h1
  refine XE.mp (fun _ _=>C1.draw 0 l a4 _ sO2 rfl rfl rfl) ?_
  refine sW ?_
  apply XE.brB
  focus
   intro h2
   refine XE.mp (fun _ _=>C1.draw 0 l a5 _ sF rfl rfl rfl) ?_
   refine sW ?_
   refine XE.mp (fun _ _=>C1.draw 0 l a6 _ sG rfl rfl rfl) ?_
   refine sW ?_
   refine XE.mp (fun _ _=>C1.draw 0 l a7 _ (sRb) rfl rfl rfl) ?_
   refine sW ?_
   refine XE.loopF mixm [6,19,23] (fun y:List Qst×Nat=>y.1.length≤Nb∧(∀ i (h:i < y.1.length),qstE s y.1[i] = 0∧y.1[i].name = ⟨#[113,dgt (Nb - i)]⟩)∧y.2≤l.length) (fun y=>[(6,vI ((Nb - y.1.length:Nat):Int))]) (fun y=>[(0,oC l y.2),(4096,.arr 2 [schT s] false),(4100,.arr 12 [dclT dcl0] false),(8236,.arr 12 [.agg [vS ⟨#[112,dgt P]⟩,vS qx7,vI (c0:Cnd).op,vI (c0:Cnd).col,vI (c0:Cnd).code,vI (c0:Cnd).lo,vI (c0:Cnd).hi,vCs (c0:Cnd).kids,vI g,vI f,vI sd,.asl 1 y.1.length]] false),(1,.arr 17 (y.1.map qstT) false)]) (fun y=>Nb - y.1.length) ([],bb) ⟨by simp,fun i h=>by simp at h,hbb⟩ (fun e ⟨_,hst⟩=>?_) fun T' y hy ih=>?_
   ·exact .oA [(0,some 0),(4096,some 4096),(4100,some 4100),(8236,some 8236),(1,none)] []
   obtain ⟨qs,a8⟩:=y
   obtain ⟨y1,y2,y3⟩:=hy
   dsimp only at y1 y2 y3
   simp only [tZ,↓un_u,simprocAttr,decide_eq_true_eq,decide_eq_false_iff_not]
   refine XE.brN (fun h4=>?_) (fun h4=>?_)
   ·have hlt:qs.length < Nb:=by omega
    have hI:=qm7 (Nb - qs.length) (by omega)
    obtain ⟨⟨q,a9⟩,⟨⟨hq,hqn⟩,ha9⟩,sQ⟩:=zt s hd ⟨#[113,dgt (Nb - qs.length)]⟩ (nm_p _ (by omega)).2 l a8 hl y3
    dsimp only at hq hqn ha9 sQ
    have hwk:=yb (i:=Nb - qs.length) (by omega) (by omega)
    refine XE.mp (fun _ _=>C1.im hI (by rfl) (by rfl)) ?_
    simp only [tZ,↓un_u,simprocAttr,qm6]
    refine XE.sd (show 1 + 1≤9223372036854775807 by omega) ?_
    refine XE.mp (fun _ _=>C1.draw 0 l a8 _ sQ rfl rfl rfl) ?_
    simp only [tZ,↓un_u,simprocAttr,hwk]
    refine XE.sd (by omega) (XE.sd (by kernel_rfl) ?_)
    refine XE.next ih (qs ++ [q],a9) ⟨by simp;omega,fun i h=>?_,ha9⟩ (by simp;omega) fun e ⟨_,hst⟩=>?_
    ·dsimp only at h ⊢
     by_cases hi:i < qs.length
     ·rw [List.getElem_append_left hi]
      exact y2 i hi
     ·have he:i = qs.length:=by rw [List.length_append] at h;simp at h;omega
      subst he
      rw [List.getElem_append_right (Nat.le_refl _)]
      simpa using And.intro hq hqn
    ·have e1:Nb - (qs ++ [q]).length = Nb - qs.length - 1:=by rw [List.length_append];simp;omega
     simp only [e1]
     exact .oA [(0,some 0),(4096,some 4096),(4100,some 4100),(8236,some 8236),(1,some 1)] []
   ·refine XE.fin (⟨⟨#[112,dgt P]⟩,qx7,c0,⟨g,f,sd⟩,qs⟩,a8) ⟨qW2 hE (by omega) hc0 hcf0 (by rw [smpE,if_neg];dsimp only;omega) (by omega) rfl (by omega) (fun i h=>by have:=y2 i h;rwa [show Nb = qs.length by omega] at this),y3⟩ fun e ⟨_,hst⟩=>?_
    exact .oA [(0,some 0)] [1]
  focus
   intro h2
   refine XE.mp (fun _ _=>C1.draw 0 l a5 _ (sRa) rfl rfl rfl) ?_
   refine sW ?_
   refine XE.loopF mixm [6,19,23] (fun y:List Qst×Nat=>y.1.length≤Na∧(∀ i (h:i < y.1.length),qstE s y.1[i] = 0∧y.1[i].name = ⟨#[113,dgt (Na - i)]⟩)∧y.2≤l.length) (fun y=>[(6,vI ((Na - y.1.length:Nat):Int))]) (fun y=>[(0,oC l y.2),(4096,.arr 2 [schT s] false),(4100,.arr 12 [dclT dcl0] false),(8236,.arr 12 [.agg [vS ⟨#[112,dgt P]⟩,vS qx7,vI (c0:Cnd).op,vI (c0:Cnd).col,vI (c0:Cnd).code,vI (c0:Cnd).lo,vI (c0:Cnd).hi,vCs (c0:Cnd).kids,vI 1,vI 1,vI sd,.asl 1 y.1.length]] false),(1,.arr 17 (y.1.map qstT) false)]) (fun y=>Na - y.1.length) ([],ba) ⟨by simp,fun i h=>by simp at h,hba⟩ (fun e ⟨_,hst⟩=>?_) fun T' y hy ih=>?_
   ·exact .oA [(0,some 0),(4096,some 4096),(4100,some 4100),(8236,some 8236),(1,none)] []
   obtain ⟨qs,a8⟩:=y
   obtain ⟨y1,y2,y3⟩:=hy
   dsimp only at y1 y2 y3
   simp only [tZ,↓un_u,simprocAttr,decide_eq_true_eq,decide_eq_false_iff_not]
   refine XE.brN (fun h4=>?_) (fun h4=>?_)
   ·have hlt:qs.length < Na:=by omega
    have hI:=qm7 (Na - qs.length) (by omega)
    obtain ⟨⟨q,a9⟩,⟨⟨hq,hqn⟩,ha9⟩,sQ⟩:=zt s hd ⟨#[113,dgt (Na - qs.length)]⟩ (nm_p _ (by omega)).2 l a8 hl y3
    dsimp only at hq hqn ha9 sQ
    have hwk:=yb (i:=Na - qs.length) (by omega) (by omega)
    refine XE.mp (fun _ _=>C1.im hI (by rfl) (by rfl)) ?_
    simp only [tZ,↓un_u,simprocAttr,qm6]
    refine XE.sd (show 1 + 1≤9223372036854775807 by omega) ?_
    refine XE.mp (fun _ _=>C1.draw 0 l a8 _ sQ rfl rfl rfl) ?_
    simp only [tZ,↓un_u,simprocAttr,hwk]
    refine XE.sd (by omega) (XE.sd (by kernel_rfl) ?_)
    refine XE.next ih (qs ++ [q],a9) ⟨by simp;omega,fun i h=>?_,ha9⟩ (by simp;omega) fun e ⟨_,hst⟩=>?_
    ·dsimp only at h ⊢
     by_cases hi:i < qs.length
     ·rw [List.getElem_append_left hi]
      exact y2 i hi
     ·have he:i = qs.length:=by rw [List.length_append] at h;simp at h;omega
      subst he
      rw [List.getElem_append_right (Nat.le_refl _)]
      simpa using And.intro hq hqn
    ·have e1:Na - (qs ++ [q]).length = Na - qs.length - 1:=by rw [List.length_append];simp;omega
     simp only [e1]
     exact .oA [(0,some 0),(4096,some 4096),(4100,some 4100),(8236,some 8236),(1,some 1)] []
   ·refine XE.fin (⟨⟨#[112,dgt P]⟩,qx7,c0,⟨1,1,sd⟩,qs⟩,a8) ⟨qW2 hE (by omega) hc0 hcf0 (by rw [smpE,if_neg];dsimp only;omega) (by omega) rfl (by omega) (fun i h=>by have:=y2 i h;rwa [show Na = qs.length by omega] at this),y3⟩ fun e ⟨_,hst⟩=>?_
    exact .oA [(0,some 0)] [1]
end Go.Proofs
namespace Go.Proofs
open Go Go.TL
set_option maxRecDepth 4000
set_option maxHeartbeats 8000000
end Go.Proofs
namespace Go.Proofs
open Go Go.TL
set_option maxRecDepth 4000
set_option maxHeartbeats 8000000
theorem jd2 (a b:ByteArray):eqB a b = eqB b a:=by
 show (a.toList == b.toList) = (b.toList == a.toList)
 rw [Bool.eq_iff_iff,beq_iff_eq,beq_iff_eq]
 exact ⟨fun h=>h.symm,fun h=>h.symm⟩
theorem jj7 {s:Sch} {qs:List Qst}:zx (qsE s qs) qs.length = 0↔(∀ q∈qs,qstE s q = 0)∧qs.Pairwise fun a b=>eqB a.name b.name = false:=by
 have hA:∀ i (hi:i < qs.length),qsE s qs i = if qstE s qs[i]≠0 then qstE s qs[i] else if ((qs.take i).any fun x=>eqB x.name qs[i].name) = true then 10 else 0:=fun i hi=>by
  rw [qsE,qAt,qk hi]
 constructor
 ·intro h
  have key:∀ i (hi:i < qs.length),qstE s qs[i] = 0∧((qs.take i).any fun x=>eqB x.name qs[i].name) = false:=fun i hi=>by
   have:=Zw h i hi
   rw [hA i hi] at this
   split at this
   ·rename_i h1;exact absurd this h1
   ·rename_i h1
    split at this
    ·cases this
    ·rename_i h2;exact ⟨Classical.byContradiction h1,by simpa using h2⟩
  refine ⟨fun q hq=>?_,?_⟩
  ·obtain ⟨i,hi,rfl⟩:=List.getElem_of_mem hq
   exact (key i hi).1
  ·rw [List.pairwise_iff_getElem]
   intro i j hi hj hij
   have:=(key j hj).2
   rw [List.any_eq_false] at this
   have h3:=this qs[i] (List.mem_take_iff_getElem.2 ⟨i,by omega,rfl⟩)
   simpa using h3
 ·rintro ⟨h1,h2⟩
  refine Km fun i hi=>?_
  rw [hA i hi,if_neg (by rw [h1 _ (List.getElem_mem hi)];simp),if_neg]
  intro k
  obtain ⟨x,hx,e⟩:=List.any_eq_true.1 k
  obtain ⟨j,hj,rfl⟩:=List.mem_take_iff_getElem.1 hx
  rw [List.pairwise_iff_getElem.1 h2 j i (by omega) hi (by omega)] at e
  cases e
theorem zx8 {s:Sch} {d:Dcl} (h:dclE s d = 0) {qs:List Qst} (h1:1≤qs.length) (h8:qs.length≤8) (hq:∀ q∈qs,qstE s q = 0) (hp:qs.Pairwise fun a b=>eqB a.name b.name = false):dclE s ⟨d.proj,d.src,d.coh,d.smp,qs⟩ = 0:=by
 obtain ⟨hE,hn1,hn2,hc,hx,_,_,_⟩:=Yx h
 rw [dclE,if_neg (by rw [hE];simp),if_neg (by rw [hn1,hn2];simp),if_neg (by rw [hc];simp),if_neg (by rw [hx];simp),if_neg (by dsimp only;omega)]
 exact jj7.2 ⟨hq,hp⟩
theorem ju5 {s:Sch} {d:Dcl} (h:dclE s d = 0):(∀ q∈d.qs,qstE s q = 0)∧d.qs.Pairwise fun a b=>eqB a.name b.name = false:=by
 obtain ⟨hE,hn1,hn2,hc,hx,h1,h8,_⟩:=Yx h
 rw [dclE,if_neg (by rw [hE];simp),if_neg (by rw [hn1,hn2];simp),if_neg (by rw [hc];simp),if_neg (by rw [hx];simp),if_neg (by omega)] at h
 exact jj7.1 h
theorem zU7 {a b:List Pk} (h:∀ p,p∈a↔p∈b) (k:Int):mxl a k = mxl b k:=by
 refine Int.le_antisymm ?_ ?_
 ·exact zx7 (Jg _ _) fun p hp e=>by have:=zi1 ((h p).1 hp);rw [e] at this;exact this
 ·exact zx7 (Jg _ _) fun p hp e=>by have:=zi1 ((h p).2 hp);rw [e] at this;exact this
def qW3:ByteArray:=⟨#[101,120,116,114,97]⟩
theorem jd3:∀ n:Nat,n < 10→eqB ⟨#[113,dgt n]⟩ qW3 = false:=by
 have:∀ n:Fin 10,eqB ⟨#[113,dgt n.1]⟩ qW3 = false:=by decide +kernel
 exact fun n h=>this ⟨n,h⟩
abbrev qH2 (d:Dcl) (q:Qst):Dcl:=⟨d.proj,d.src,d.coh,d.smp,d.qs ++ [q]⟩
abbrev zU8 (d:Dcl):Dcl:=⟨d.proj,d.src,d.coh,d.smp,d.qs.reverse⟩
theorem zB9 {s:Sch} {d:Dcl} (h:dclE s d = 0) (hD:DrD s d) {q:Qst} (hq:qstE s q = 0) (hn:q.name = qW3):dclE s (qH2 d q) = 0∧dclE s (zU8 d) = 0∧covB (zU s d) (zU s (qH2 d q)) = true∧zU s (zU8 d) = zU s d:=by
 obtain ⟨h1,h2⟩:=ju5 h
 obtain ⟨_,_,_,_,_,h3,h4,_⟩:=Yx h
 have hl:=hD.len
 have hM:dclE s (qH2 d q) = 0:=zx8 h (by rw [List.length_append];omega) (by rw [List.length_append,List.length_singleton];omega) (fun x hx=>by
  rcases List.mem_append.1 hx with hx | hx
  ·exact h1 x hx
  ·rw [List.mem_singleton.1 hx];exact hq) (List.pairwise_append.2 ⟨h2,by simp,fun x hx y hy=>by
   rw [List.mem_singleton.1 hy,hn]
   obtain ⟨n,n1,n2⟩:=hD.nm x hx
   rw [n2];exact jd3 n n1⟩)
 have hB:dclE s (zU8 d) = 0:=zx8 h (by rw [List.length_reverse];omega) (by rw [List.length_reverse];omega) (fun x hx=>h1 x (List.mem_reverse.1 hx)) (List.pairwise_reverse.2 (h2.imp fun {a b} e=>by rw [jd2];exact e))
 refine ⟨hM,hB,?_,?_⟩
 ·rw [kU h,kU hM]
  refine zU0 fun k _=>?_
  unfold zi2
  dsimp only
  rw [List.flatMap_append,qG8]
  omega
 ·rw [kU h,kU hB]
  refine Zy fun k _=>zU7 (fun p=>?_) k
  unfold zi2
  simp only [List.mem_flatMap,List.mem_reverse]
theorem YH (bs:List UInt8):Spc Tryz.prog QB [vL bs] [] (vB true) []:=by
 have hl4:(bs.take 400).length≤400:=by rw [List.length_take];omega
 obtain ⟨⟨s,a1⟩,⟨hD,ha1⟩,sS⟩:=qg1 (bs.take 400) 0 hl4 (by omega)
 dsimp only at hD ha1 sS
 obtain ⟨⟨d,a2⟩,⟨⟨hd,hDD⟩,ha2⟩,sDd⟩:=JT s hD (bs.take 400) a1 hl4 ha1
 dsimp only at hd hDD ha2 sDd
 obtain ⟨⟨q,a3⟩,⟨⟨hq,hqn⟩,ha3⟩,sQ⟩:=zt s hD qW3 (by kernel_rfl) (bs.take 400) a2 hl4 ha2
 dsimp only at hq hqn ha3 sQ
 have hE:=hD.ok
 have hs:=(qZ hE).sm
 have hL:0 < s.lists.length:=by obtain ⟨a,b,e,_⟩:=hD.ls;rw [e];simp
 obtain ⟨g1,g2,g3,g4⟩:=zB9 hd hDD hq hqn
 have sP1:=kK s hs d
 have sP2:=kK s hs (qH2 d q)
 have sP3:=kK s hs (zU8 d)
 have hl1:=qm5 s d
 have hl2:=qm5 s (qH2 d q)
 rw [hd] at sP1
 rw [g1] at sP2
 rw [g2,g4] at sP3
 have sWi:=Qr (zU s d) (zU s (qH2 d q)) (by omega) (by omega)
 rw [g3] at sWi
 have sSm:=Kn (zU s d) (zU s d) (by omega)
 rw [zB4.2 rfl] at sSm
 have sR:=qU5 s hs hL (qH2 d q)
 rw [g1] at sR
 have hln:=hDD.len
 generalize zU s d = A at sP1 sP3 sWi sSm
 generalize zU s (qH2 d q) = B at sP2 sWi
 refine Ky [6,13] Wt mixm (by simp) fun e _ hst=>qg ?_
 unfold kf
 simp only [Wr,List.contains_cons,List.contains_nil,Nat.reduceBEq,Bool.or_false,Bool.or_true,Bool.true_or,Bool.false_or,cond_true,cond_false]
 refine sW ?_
 refine C1.newdraw 8196 (zB1 bs) rfl rfl ?_
 generalize bs.take 400 = m at hl4 sS sDd sQ ha1 ha2 ha3 ⊢
 refine sW ?_
 refine C1.draw 8196 m 0 _ sS rfl rfl rfl ?_
 refine sW ?_
 refine C1.draw 8196 m a1 _ sDd rfl rfl rfl ?_
 refine sW ?_
 refine ⟨by omega,?_⟩
 refine C1.draw 8196 m a2 _ sQ rfl rfl rfl ?_
 refine sW ?_
 refine ⟨by omega,by kernel_rfl,?_⟩
 refine jp7 [(12296,.arr 2 [schT s] false),(16396,.arr 12 [dclT d] false),(20484,.arr 12 [dclT (qH2 d q)] false)] ?_ ?_
 ·refine .of [(12296,some 12296),(16396,some 16396),(20484,some 20484)] [24584] rfl (by first | rfl | (rw [hst];rfl)) ?_ ?_
  all_goals (try simp only [tL,simprocAttr,List.map_append,List.map_cons,List.map_nil,List.cons_append,List.nil_append])
  all_goals (try (repeat' (first | exact qR | (apply zd;intro _;exact ⟨rfl,rfl⟩) | (apply qz;intro _;exact ⟨rfl,rfl⟩) | with_reducible apply qG | with_reducible refine qE ⟨rfl,rfl⟩ ?_ | exact qO | with_reducible apply qA | with_reducible refine qJ ⟨rfl,rfl,?_⟩ ?_ | with_reducible apply And.intro | exact qD rfl | exact qD (by assumption) | (refine ⟨⟨?_,rfl,?_,rfl,?_⟩,trivial⟩ <;> first | (simp;done) | (apply qz;intro _;exact ⟨rfl,rfl⟩)) | trivial | rfl | (rw [qh (by omega)]) | omega)))
  simp only [T.cells,tL,simprocAttr]
  all_goals (try simp only [tL,simprocAttr,List.map_append,List.map_cons,List.map_nil,List.cons_append,List.nil_append])
  all_goals (try (repeat' (first | exact qR | (apply zd;intro _;exact ⟨rfl,rfl⟩) | (apply qz;intro _;exact ⟨rfl,rfl⟩) | with_reducible apply qG | with_reducible refine qE ⟨rfl,rfl⟩ ?_ | exact qO | with_reducible apply qA | with_reducible refine qJ ⟨rfl,rfl,?_⟩ ?_ | with_reducible apply And.intro | exact qD rfl | exact qD (by assumption) | (refine ⟨⟨?_,rfl,?_,rfl,?_⟩,trivial⟩ <;> first | (simp;done) | (apply qz;intro _;exact ⟨rfl,rfl⟩)) | trivial | rfl | (rw [qh (by omega)]) | omega)))
  done
 refine sW ?_
 refine qu mixm (α:=Nat) [37] (fun i=>i≤d.qs.length) (fun i=>[(37,vI i)]) (fun i=>[(12296,.arr 2 [schT s] false),(16396,.arr 12 [dclT d] false),(20484,.arr 12 [dclT (qH2 d q)] false),(28676,.arr 12 [.agg [vS d.proj,vS d.src,vI d.coh.op,vI d.coh.col,vI d.coh.code,vI d.coh.lo,vI d.coh.hi,vCs d.coh.kids,vI d.smp.part,vI d.smp.of,vI d.smp.seed,.asl 1 i]] false),(1,.arr 17 ((d.qs.take i).reverse.map qstT) false)]) (fun i=>d.qs.length - i) 0 (by omega) ?_ fun i hi=>?_
 ·refine .of [(12296,some 12296),(16396,some 16396),(20484,some 20484),(28676,some 28676),(1,none)] [] rfl (by first | rfl | (rw [hst];rfl)) ?_ ?_
  all_goals (try simp only [tL,simprocAttr,List.map_append,List.map_cons,List.map_nil,List.cons_append,List.nil_append])
  all_goals (try (repeat' (first | exact qR | (apply zd;intro _;exact ⟨rfl,rfl⟩) | (apply qz;intro _;exact ⟨rfl,rfl⟩) | with_reducible apply qG | with_reducible refine qE ⟨rfl,rfl⟩ ?_ | exact qO | with_reducible apply qA | with_reducible refine qJ ⟨rfl,rfl,?_⟩ ?_ | with_reducible apply And.intro | exact qD rfl | exact qD (by assumption) | (refine ⟨⟨?_,rfl,?_,rfl,?_⟩,trivial⟩ <;> first | (simp;done) | (apply qz;intro _;exact ⟨rfl,rfl⟩)) | trivial | rfl | (rw [qh (by omega)]) | omega)))
  done
 have htl:(d.qs.take i).length = i:=by rw [List.length_take];omega
 refine sD ?_
 refine ⟨fun h3=>?_,fun h3=>?_⟩
 ·have hi2:i < d.qs.length:=by omega
  have hwi:=qh (i:=i) (by omega)
  have htr:(d.qs.take i).reverse.length = i:=by rw [List.length_reverse,htl]
  have hts:(d.qs.take (i + 1)).reverse = d.qs[i] :: (d.qs.take i).reverse:=by rw [qY hi2,List.reverse_append];rfl
  simp only [tZ,↓un_u,simprocAttr,Int.toNat_natCast,qe hi2,hwi]
  refine ⟨by omega,⟨htr,by omega⟩,by omega,by kernel_rfl,i + 1,by omega,by omega,?_⟩
  rw [hts,htr,Nat.add_comm 1 i]
  refine .of [(12296,some 12296),(16396,some 16396),(20484,some 20484),(28676,some 28676),(1,some 49172)] [] rfl (by first | rfl | (rw [hst];rfl)) ?_ ?_
  all_goals (try simp only [tL,simprocAttr,List.map_append,List.map_cons,List.map_nil,List.cons_append,List.nil_append])
  all_goals (try (repeat' (first | exact qR | (apply zd;intro _;exact ⟨rfl,rfl⟩) | (apply qz;intro _;exact ⟨rfl,rfl⟩) | with_reducible apply qG | with_reducible refine qE ⟨rfl,rfl⟩ ?_ | exact qO | with_reducible apply qA | with_reducible refine qJ ⟨rfl,rfl,?_⟩ ?_ | with_reducible apply And.intro | exact qD rfl | exact qD (by assumption) | (refine ⟨⟨?_,rfl,?_,rfl,?_⟩,trivial⟩ <;> first | (simp;done) | (apply qz;intro _;exact ⟨rfl,rfl⟩)) | trivial | rfl | (rw [qh (by omega)]) | omega)))
  done
 ·have hil:i = d.qs.length:=by omega
  subst hil
  rw [List.take_length]
  have hrl:d.qs.reverse.length = d.qs.length:=List.length_reverse
  refine jp7 [(12296,.arr 2 [schT s] false),(16396,.arr 12 [dclT d] false),(20484,.arr 12 [dclT (qH2 d q)] false),(28676,.arr 12 [dclT (zU8 d)] false)] ?_ ?_
  ·refine .of [(12296,some 12296),(16396,some 16396),(20484,some 20484),(28676,some 28676)] [1] rfl (by first | rfl | (rw [hst];rfl)) ?_ ?_
   all_goals (try simp only [tL,simprocAttr,List.map_append,List.map_cons,List.map_nil,List.cons_append,List.nil_append])
   all_goals (try (repeat' (first | exact qR | (apply zd;intro _;exact ⟨rfl,rfl⟩) | (apply qz;intro _;exact ⟨rfl,rfl⟩) | with_reducible apply qG | with_reducible refine qE ⟨rfl,rfl⟩ ?_ | exact qO | with_reducible apply qA | with_reducible refine qJ ⟨rfl,rfl,?_⟩ ?_ | with_reducible apply And.intro | exact qD rfl | exact qD (by assumption) | (refine ⟨⟨?_,rfl,?_,rfl,?_⟩,trivial⟩ <;> first | (simp;done) | (apply qz;intro _;exact ⟨rfl,rfl⟩)) | trivial | rfl | (rw [qh (by omega)]) | omega)))
   simp only [T.cells,tL,simprocAttr]
   all_goals (try simp only [tL,simprocAttr,List.map_append,List.map_cons,List.map_nil,List.cons_append,List.nil_append])
   all_goals (try (repeat' (first | exact qR | (apply zd;intro _;exact ⟨rfl,rfl⟩) | (apply qz;intro _;exact ⟨rfl,rfl⟩) | with_reducible apply qG | with_reducible refine qE ⟨rfl,rfl⟩ ?_ | exact qO | with_reducible apply qA | with_reducible refine qJ ⟨rfl,rfl,?_⟩ ?_ | with_reducible apply And.intro | exact qD rfl | exact qD (by assumption) | (refine ⟨⟨?_,rfl,?_,rfl,?_⟩,trivial⟩ <;> first | (simp;done) | (apply qz;intro _;exact ⟨rfl,rfl⟩)) | trivial | rfl | (rw [qh (by omega)]) | omega)))
   done
  refine sW ?_
  refine C1.im sP1 (by rfl) (by rfl) ?_
  refine sW ?_
  refine C1.im sP2 (by rfl) (by rfl) ?_
  refine sW ?_
  refine C1.im sP3 (by rfl) (by rfl) ?_
  simp only [tZ,↓un_u,simprocAttr,beq_self_eq_true]
  refine C2.im (fun _=>sWi) (fun _=>rfl) (by rfl) ?_
  refine sW ?_
  refine C2.im (fun _=>sSm) (fun _=>rfl) (by rfl) ?_
  refine sW ?_
  refine C2.im (fun _=>sR) (fun _=>rfl) (by rfl) ?_
  simp only [tZ,↓un_u,simprocAttr,beq_self_eq_true]
  refine C2.im (fun _=>qW1) (fun _=>rfl) (by rfl) ?_
  refine sW ?_
  exact .oA [] []
end Go.Proofs
