/- A part of the proof: trees of Go values, short forms, contracts. -/
import Derived.WalkKit
import Derived.Still
import Derived.MapKept
import GoSem.Builtin.Cap
import Derived.Laws.Externs
import GoSem.Extern.SlicesOverlaps
import Derived.Carry
import Derived.ProofKit
import Derived.OpenShut
import Derived.HandedShaped
import Derived.Lay
import Derived.LaidLaws
import Derived.MakeChecks
import Derived.SevenTiedAt
import Derived.Test.YtjckmmphmhafjaaGreatDoorChecked
import Derived.Test.YtjckmmphmhafjaaGreatDoorK23
set_option linter.unusedSimpArgs false
set_option linter.unusedVariables false
namespace Go.Proofs
open Go Go.TL
set_option maxRecDepth 4000
set_option maxHeartbeats 8000000
theorem nm_p:∀ n:Nat,n < 10→jV ⟨#[112,dgt n]⟩ = true∧jV ⟨#[113,dgt n]⟩ = true:=by
 have:∀ n:Fin 10,jV ⟨#[112,dgt n.1]⟩ = true∧jV ⟨#[113,dgt n.1]⟩ = true:=by decide +kernel
 exact fun n h=>this ⟨n,h⟩
theorem jy5:∀ i j:Nat,i < 10→j < 10→i≠j→eqB ⟨#[113,dgt i]⟩ ⟨#[113,dgt j]⟩ = false:=by
 have:∀ i j:Fin 10,i.1≠j.1→eqB ⟨#[113,dgt i.1]⟩ ⟨#[113,dgt j.1]⟩ = false:=by decide +kernel
 exact fun i j hi hj h=>this ⟨i,hi⟩ ⟨j,hj⟩ h
def qI7:ByteArray:=⟨#[115,114,99]⟩
theorem jy6:jV qI7 = true:=by decide +kernel
abbrev dcl0:Dcl:=⟨⟨#[]⟩,⟨#[]⟩,cnd0,⟨0,0,0⟩,[]⟩
theorem zB2 {s:Sch} {P:Nat} {c:Cnd} {x:Smp} {qs:List Qst} {N:Nat} (hE:schE s = 0) (hP:P < 10) (hc:chkC s c = 0) (hx:smpE x = 0) (h1:1≤qs.length) (hN:qs.length = N) (hN3:N≤3) (hq:∀ i (h:i < qs.length),qstE s qs[i] = 0∧qs[i].name = ⟨#[113,dgt (N - i)]⟩) :
 dclE s ⟨⟨#[112,dgt P]⟩,qI7,c,x,qs⟩ = 0:=by
 rw [dclE,if_neg (by rw [hE];simp),if_neg (by rw [(nm_p P hP).1,jy6];simp),if_neg (by rw [hc];simp),if_neg (by rw [hx];simp),if_neg (by dsimp only;omega)]
 refine qh2 fun i hi=>?_
 have hi:i < qs.length:=hi
 have hpi:qAt qs i = qs[i]:=by rw [qAt,qj hi]
 obtain ⟨a,b⟩:=hq i hi
 rw [qsE,hpi,if_neg (by rw [a];simp),if_neg]
 intro k
 obtain ⟨x,hx,e⟩:=List.any_eq_true.1 k
 obtain ⟨j,hj,rfl⟩:=List.mem_take_iff_getElem.1 hx
 have hj2:j < i∧j < qs.length:=by have:j < min i qs.length:=hj;omega
 rw [b,(hq j (by omega)).2,jy5 (N - j) (N - i) (by omega) (by omega) (by omega)] at e
 cases e
theorem JT (s:Sch) (hd:DrS s) (l:List UInt8) (a:Nat) (hl:l.length≤400) (ha:a≤l.length) :
 ∃ r:Dcl×Nat,(dclE s r.1 = 0∧r.2≤l.length)∧Spc Tryz.prog jf [.ptr 0 1 0 0,schT s] [(0,oC l a)] (dclT r.1) [(0,oC l r.2)]:=by
 have hE:=hd.ok
 have hok:=qT hE
 obtain ⟨p,a1,p1,p2,ha1,sP⟩:=jY l a 3 hl ha (by omega)
 obtain ⟨P,rfl⟩:=Int.eq_ofNat_of_zero_le p1
 have hIt:=qj0 P (by omega)
 obtain ⟨⟨c0,a2⟩,⟨hc0,ha2⟩,sC⟩:=yr s hd l hl 1 a1 ha1 (by omega)
 dsimp only at hc0 ha2 sC
 have hcf0:=hc0.chk hE (by omega)
 have hca:chkC s (.mk 1 0 0 0 0 []) = 0:=(yq (s:=s) 1 (zk1 s) rfl).chk hE (by omega)
 obtain ⟨sd,a3,sd1,sd2,ha3,sS⟩:=jY l a2 999 hl ha2 (by omega)
 obtain ⟨o1,a4,ha4,sO⟩:=zF6 l a3 3 hl ha3 (by omega)
 obtain ⟨o2,a5,ha5,sO2⟩:=zF6 l a4 3 hl ha4 (by omega)
 obtain ⟨f,a6,f1,f2,ha6,sF⟩:=Qb l a5 2 5 hl ha5 (by omega) (by omega)
 obtain ⟨g,a7,g1,g2,ha7,sG⟩:=Qb l a6 1 f hl ha6 (by omega) (by omega)
 obtain ⟨ra,ba,ra1,ra2,hba,sRa⟩:=Qb l a5 1 3 hl ha5 (by omega) (by omega)
 obtain ⟨Na,rfl⟩:=Int.eq_ofNat_of_zero_le (show 0≤ra by omega)
 obtain ⟨rb,bb,rb1,rb2,hbb,sRb⟩:=Qb l a7 1 3 hl ha7 (by omega) (by omega)
 obtain ⟨Nb,rfl⟩:=Int.eq_ofNat_of_zero_le (show 0≤rb by omega)
 refine zg ZQ mixm (fun r:Dcl×Nat=>dclT r.1) (fun r=>[(0,oC l r.2)]) (by simp) ?_
 unfold zY
 refine sW ?_
 refine XE.mp (fun _ _=>C1.draw 0 l a _ sP rfl rfl rfl) ?_
 refine sW ?_
 refine XE.mp (fun _ _=>C1.im hIt (by rfl) (by rfl)) ?_
 simp only [tZ,↓un_u,simprocAttr,qi9]
 refine XE.sd (show 1 + 1≤9223372036854775807 by omega) ?_
 refine XE.mp (fun _ _=>C1.draw 0 l a1 _ sC rfl rfl rfl) ?_
 refine sW ?_
 refine XE.mp (fun _ _=>C1.draw 0 l a2 _ sS rfl rfl rfl) ?_
 refine sW ?_
 refine XE.sd (by kernel_rfl) ?_
 refine XE.mp (fun _ _=>C1.draw 0 l a3 _ sO rfl rfl rfl) ?_
 refine sW ?_
 apply XE.brB
 ·intro h1
  refine XE.mp (fun _ _=>C1.draw 0 l a4 _ sO2 rfl rfl rfl) ?_
  refine sW ?_
  apply XE.brB
  focus
   intro h2
   refine XE.mp (fun _ _=>C1.draw 0 l a5 _ sF rfl rfl rfl) ?_
   refine sW ?_
   refine XE.mp (fun _ _=>C1.draw 0 l a6 _ sG rfl rfl rfl) ?_
   refine sW ?_
   refine XE.mp (fun _ _=>C1.draw 0 l a7 _ (sRb) rfl rfl rfl) ?_
   refine sW ?_
   refine XE.loopF mixm [6,19,23] (fun y:List Qst×Nat=>y.1.length≤Nb∧(∀ i (h:i < y.1.length),qstE s y.1[i] = 0∧y.1[i].name = ⟨#[113,dgt (Nb - i)]⟩)∧y.2≤l.length) (fun y=>[(6,vI ((Nb - y.1.length:Nat):Int))]) (fun y=>[(0,oC l y.2),(4096,.arr 2 [schT s] false),(4100,.arr 12 [dclT dcl0] false),(8236,.arr 12 [.agg [vS ⟨#[112,dgt P]⟩,vS qI7,vI ((.mk 1 0 0 0 0 []):Cnd).op,vI ((.mk 1 0 0 0 0 []):Cnd).col,vI ((.mk 1 0 0 0 0 []):Cnd).code,vI ((.mk 1 0 0 0 0 []):Cnd).lo,vI ((.mk 1 0 0 0 0 []):Cnd).hi,vCs ((.mk 1 0 0 0 0 []):Cnd).kids,vI g,vI f,vI sd,.asl 1 y.1.length]] false),(1,.arr 17 (y.1.map qstT) false)]) (fun y=>Nb - y.1.length) ([],bb) ⟨by simp,fun i h=>by simp at h,hbb⟩ (fun e ⟨_,hst⟩=>?_) fun T' y hy ih=>?_
   ·exact .oA [(0,some 0),(4096,some 4096),(4100,some 4100),(8236,some 8236),(1,none)] []
   obtain ⟨qs,a8⟩:=y
   obtain ⟨y1,y2,y3⟩:=hy
   dsimp only at y1 y2 y3
   simp only [tZ,↓un_u,simprocAttr,decide_eq_true_eq,decide_eq_false_iff_not]
   refine XE.brN (fun h4=>?_) (fun h4=>?_)
   ·have hlt:qs.length < Nb:=by omega
    have hI:=qj0 (Nb - qs.length) (by omega)
    obtain ⟨⟨q,a9⟩,⟨⟨hq,hqn⟩,ha9⟩,sQ⟩:=zT s hd ⟨#[113,dgt (Nb - qs.length)]⟩ (nm_p _ (by omega)).2 l a8 hl y3
    dsimp only at hq hqn ha9 sQ
    have hwk:=zk (i:=Nb - qs.length) (by omega) (by omega)
    refine XE.mp (fun _ _=>C1.im hI (by rfl) (by rfl)) ?_
    simp only [tZ,↓un_u,simprocAttr,qi9]
    refine XE.sd (show 1 + 1≤9223372036854775807 by omega) ?_
    refine XE.mp (fun _ _=>C1.draw 0 l a8 _ sQ rfl rfl rfl) ?_
    simp only [tZ,↓un_u,simprocAttr,hwk]
    refine XE.sd (by omega) (XE.sd (by kernel_rfl) ?_)
    refine XE.next ih (qs ++ [q],a9) ⟨by simp;omega,fun i h=>?_,ha9⟩ (by simp;omega) fun e ⟨_,hst⟩=>?_
    ·dsimp only at h ⊢
     by_cases hi:i < qs.length
     ·rw [List.getElem_append_left hi]
      exact y2 i hi
     ·have he:i = qs.length:=by rw [List.length_append] at h;simp at h;omega
      subst he
      rw [List.getElem_append_right (Nat.le_refl _)]
      simpa using And.intro hq hqn
    ·have e1:Nb - (qs ++ [q]).length = Nb - qs.length - 1:=by rw [List.length_append];simp;omega
     simp only [e1]
     exact .oA [(0,some 0),(4096,some 4096),(4100,some 4100),(8236,some 8236),(1,some 1)] []
   ·refine XE.fin (⟨⟨#[112,dgt P]⟩,qI7,(.mk 1 0 0 0 0 []),⟨g,f,sd⟩,qs⟩,a8) ⟨zB2 hE (by omega) hca (by rw [smpE,if_neg];dsimp only;omega) (by omega) rfl (by omega) (fun i h=>by have:=y2 i h;rwa [show Nb = qs.length by omega] at this),y3⟩ fun e ⟨_,hst⟩=>?_
    exact .oA [(0,some 0)] [1]
  focus
   intro h2
   refine XE.mp (fun _ _=>C1.draw 0 l a5 _ (sRa) rfl rfl rfl) ?_
   refine sW ?_
   refine XE.loopF mixm [6,19,23] (fun y:List Qst×Nat=>y.1.length≤Na∧(∀ i (h:i < y.1.length),qstE s y.1[i] = 0∧y.1[i].name = ⟨#[113,dgt (Na - i)]⟩)∧y.2≤l.length) (fun y=>[(6,vI ((Na - y.1.length:Nat):Int))]) (fun y=>[(0,oC l y.2),(4096,.arr 2 [schT s] false),(4100,.arr 12 [dclT dcl0] false),(8236,.arr 12 [.agg [vS ⟨#[112,dgt P]⟩,vS qI7,vI ((.mk 1 0 0 0 0 []):Cnd).op,vI ((.mk 1 0 0 0 0 []):Cnd).col,vI ((.mk 1 0 0 0 0 []):Cnd).code,vI ((.mk 1 0 0 0 0 []):Cnd).lo,vI ((.mk 1 0 0 0 0 []):Cnd).hi,vCs ((.mk 1 0 0 0 0 []):Cnd).kids,vI 1,vI 1,vI sd,.asl 1 y.1.length]] false),(1,.arr 17 (y.1.map qstT) false)]) (fun y=>Na - y.1.length) ([],ba) ⟨by simp,fun i h=>by simp at h,hba⟩ (fun e ⟨_,hst⟩=>?_) fun T' y hy ih=>?_
   ·exact .oA [(0,some 0),(4096,some 4096),(4100,some 4100),(8236,some 8236),(1,none)] []
   obtain ⟨qs,a8⟩:=y
   obtain ⟨y1,y2,y3⟩:=hy
   dsimp only at y1 y2 y3
   simp only [tZ,↓un_u,simprocAttr,decide_eq_true_eq,decide_eq_false_iff_not]
   refine XE.brN (fun h4=>?_) (fun h4=>?_)
   ·have hlt:qs.length < Na:=by omega
    have hI:=qj0 (Na - qs.length) (by omega)
    obtain ⟨⟨q,a9⟩,⟨⟨hq,hqn⟩,ha9⟩,sQ⟩:=zT s hd ⟨#[113,dgt (Na - qs.length)]⟩ (nm_p _ (by omega)).2 l a8 hl y3
    dsimp only at hq hqn ha9 sQ
    have hwk:=zk (i:=Na - qs.length) (by omega) (by omega)
    refine XE.mp (fun _ _=>C1.im hI (by rfl) (by rfl)) ?_
    simp only [tZ,↓un_u,simprocAttr,qi9]
    refine XE.sd (show 1 + 1≤9223372036854775807 by omega) ?_
    refine XE.mp (fun _ _=>C1.draw 0 l a8 _ sQ rfl rfl rfl) ?_
    simp only [tZ,↓un_u,simprocAttr,hwk]
    refine XE.sd (by omega) (XE.sd (by kernel_rfl) ?_)
    refine XE.next ih (qs ++ [q],a9) ⟨by simp;omega,fun i h=>?_,ha9⟩ (by simp;omega) fun e ⟨_,hst⟩=>?_
    ·dsimp only at h ⊢
     by_cases hi:i < qs.length
     ·rw [List.getElem_append_left hi]
      exact y2 i hi
     ·have he:i = qs.length:=by rw [List.length_append] at h;simp at h;omega
      subst he
      rw [List.getElem_append_right (Nat.le_refl _)]
      simpa using And.intro hq hqn
    ·have e1:Na - (qs ++ [q]).length = Na - qs.length - 1:=by rw [List.length_append];simp;omega
     simp only [e1]
     exact .oA [(0,some 0),(4096,some 4096),(4100,some 4100),(8236,some 8236),(1,some 1)] []
   ·refine XE.fin (⟨⟨#[112,dgt P]⟩,qI7,(.mk 1 0 0 0 0 []),⟨1,1,sd⟩,qs⟩,a8) ⟨zB2 hE (by omega) hca (by rw [smpE,if_neg];dsimp only;omega) (by omega) rfl (by omega) (fun i h=>by have:=y2 i h;rwa [show Na = qs.length by omega] at this),y3⟩ fun e ⟨_,hst⟩=>?_
    exact .oA [(0,some 0)] [1]
 ·intro h1
  refine XE.mp (fun _ _=>C1.draw 0 l a4 _ sO2 rfl rfl rfl) ?_
  refine sW ?_
  apply XE.brB
  focus
   intro h2
   refine XE.mp (fun _ _=>C1.draw 0 l a5 _ sF rfl rfl rfl) ?_
   refine sW ?_
   refine XE.mp (fun _ _=>C1.draw 0 l a6 _ sG rfl rfl rfl) ?_
   refine sW ?_
   refine XE.mp (fun _ _=>C1.draw 0 l a7 _ (sRb) rfl rfl rfl) ?_
   refine sW ?_
   refine XE.loopF mixm [6,19,23] (fun y:List Qst×Nat=>y.1.length≤Nb∧(∀ i (h:i < y.1.length),qstE s y.1[i] = 0∧y.1[i].name = ⟨#[113,dgt (Nb - i)]⟩)∧y.2≤l.length) (fun y=>[(6,vI ((Nb - y.1.length:Nat):Int))]) (fun y=>[(0,oC l y.2),(4096,.arr 2 [schT s] false),(4100,.arr 12 [dclT dcl0] false),(8236,.arr 12 [.agg [vS ⟨#[112,dgt P]⟩,vS qI7,vI (c0:Cnd).op,vI (c0:Cnd).col,vI (c0:Cnd).code,vI (c0:Cnd).lo,vI (c0:Cnd).hi,vCs (c0:Cnd).kids,vI g,vI f,vI sd,.asl 1 y.1.length]] false),(1,.arr 17 (y.1.map qstT) false)]) (fun y=>Nb - y.1.length) ([],bb) ⟨by simp,fun i h=>by simp at h,hbb⟩ (fun e ⟨_,hst⟩=>?_) fun T' y hy ih=>?_
   ·exact .oA [(0,some 0),(4096,some 4096),(4100,some 4100),(8236,some 8236),(1,none)] []
   obtain ⟨qs,a8⟩:=y
   obtain ⟨y1,y2,y3⟩:=hy
   dsimp only at y1 y2 y3
   simp only [tZ,↓un_u,simprocAttr,decide_eq_true_eq,decide_eq_false_iff_not]
   refine XE.brN (fun h4=>?_) (fun h4=>?_)
   ·have hlt:qs.length < Nb:=by omega
    have hI:=qj0 (Nb - qs.length) (by omega)
    obtain ⟨⟨q,a9⟩,⟨⟨hq,hqn⟩,ha9⟩,sQ⟩:=zT s hd ⟨#[113,dgt (Nb - qs.length)]⟩ (nm_p _ (by omega)).2 l a8 hl y3
    dsimp only at hq hqn ha9 sQ
    have hwk:=zk (i:=Nb - qs.length) (by omega) (by omega)
    refine XE.mp (fun _ _=>C1.im hI (by rfl) (by rfl)) ?_
    simp only [tZ,↓un_u,simprocAttr,qi9]
    refine XE.sd (show 1 + 1≤9223372036854775807 by omega) ?_
    refine XE.mp (fun _ _=>C1.draw 0 l a8 _ sQ rfl rfl rfl) ?_
    simp only [tZ,↓un_u,simprocAttr,hwk]
    refine XE.sd (by omega) (XE.sd (by kernel_rfl) ?_)
    refine XE.next ih (qs ++ [q],a9) ⟨by simp;omega,fun i h=>?_,ha9⟩ (by simp;omega) fun e ⟨_,hst⟩=>?_
    ·dsimp only at h ⊢
     by_cases hi:i < qs.length
     ·rw [List.getElem_append_left hi]
      exact y2 i hi
     ·have he:i = qs.length:=by rw [List.length_append] at h;simp at h;omega
      subst he
      rw [List.getElem_append_right (Nat.le_refl _)]
      simpa using And.intro hq hqn
    ·have e1:Nb - (qs ++ [q]).length = Nb - qs.length - 1:=by rw [List.length_append];simp;omega
     simp only [e1]
     exact .oA [(0,some 0),(4096,some 4096),(4100,some 4100),(8236,some 8236),(1,some 1)] []
   ·refine XE.fin (⟨⟨#[112,dgt P]⟩,qI7,c0,⟨g,f,sd⟩,qs⟩,a8) ⟨zB2 hE (by omega) hcf0 (by rw [smpE,if_neg];dsimp only;omega) (by omega) rfl (by omega) (fun i h=>by have:=y2 i h;rwa [show Nb = qs.length by omega] at this),y3⟩ fun e ⟨_,hst⟩=>?_
    exact .oA [(0,some 0)] [1]
  focus
   intro h2
   refine XE.mp (fun _ _=>C1.draw 0 l a5 _ (sRa) rfl rfl rfl) ?_
   refine sW ?_
   refine XE.loopF mixm [6,19,23] (fun y:List Qst×Nat=>y.1.length≤Na∧(∀ i (h:i < y.1.length),qstE s y.1[i] = 0∧y.1[i].name = ⟨#[113,dgt (Na - i)]⟩)∧y.2≤l.length) (fun y=>[(6,vI ((Na - y.1.length:Nat):Int))]) (fun y=>[(0,oC l y.2),(4096,.arr 2 [schT s] false),(4100,.arr 12 [dclT dcl0] false),(8236,.arr 12 [.agg [vS ⟨#[112,dgt P]⟩,vS qI7,vI (c0:Cnd).op,vI (c0:Cnd).col,vI (c0:Cnd).code,vI (c0:Cnd).lo,vI (c0:Cnd).hi,vCs (c0:Cnd).kids,vI 1,vI 1,vI sd,.asl 1 y.1.length]] false),(1,.arr 17 (y.1.map qstT) false)]) (fun y=>Na - y.1.length) ([],ba) ⟨by simp,fun i h=>by simp at h,hba⟩ (fun e ⟨_,hst⟩=>?_) fun T' y hy ih=>?_
   ·exact .oA [(0,some 0),(4096,some 4096),(4100,some 4100),(8236,some 8236),(1,none)] []
   obtain ⟨qs,a8⟩:=y
   obtain ⟨y1,y2,y3⟩:=hy
   dsimp only at y1 y2 y3
   simp only [tZ,↓un_u,simprocAttr,decide_eq_true_eq,decide_eq_false_iff_not]
   refine XE.brN (fun h4=>?_) (fun h4=>?_)
   ·have hlt:qs.length < Na:=by omega
    have hI:=qj0 (Na - qs.length) (by omega)
    obtain ⟨⟨q,a9⟩,⟨⟨hq,hqn⟩,ha9⟩,sQ⟩:=zT s hd ⟨#[113,dgt (Na - qs.length)]⟩ (nm_p _ (by omega)).2 l a8 hl y3
    dsimp only at hq hqn ha9 sQ
    have hwk:=zk (i:=Na - qs.length) (by omega) (by omega)
    refine XE.mp (fun _ _=>C1.im hI (by rfl) (by rfl)) ?_
    simp only [tZ,↓un_u,simprocAttr,qi9]
    refine XE.sd (show 1 + 1≤9223372036854775807 by omega) ?_
    refine XE.mp (fun _ _=>C1.draw 0 l a8 _ sQ rfl rfl rfl) ?_
    simp only [tZ,↓un_u,simprocAttr,hwk]
    refine XE.sd (by omega) (XE.sd (by kernel_rfl) ?_)
    refine XE.next ih (qs ++ [q],a9) ⟨by simp;omega,fun i h=>?_,ha9⟩ (by simp;omega) fun e ⟨_,hst⟩=>?_
    ·dsimp only at h ⊢
     by_cases hi:i < qs.length
     ·rw [List.getElem_append_left hi]
      exact y2 i hi
     ·have he:i = qs.length:=by rw [List.length_append] at h;simp at h;omega
      subst he
      rw [List.getElem_append_right (Nat.le_refl _)]
      simpa using And.intro hq hqn
    ·have e1:Na - (qs ++ [q]).length = Na - qs.length - 1:=by rw [List.length_append];simp;omega
     simp only [e1]
     exact .oA [(0,some 0),(4096,some 4096),(4100,some 4100),(8236,some 8236),(1,some 1)] []
   ·refine XE.fin (⟨⟨#[112,dgt P]⟩,qI7,c0,⟨1,1,sd⟩,qs⟩,a8) ⟨zB2 hE (by omega) hcf0 (by rw [smpE,if_neg];dsimp only;omega) (by omega) rfl (by omega) (fun i h=>by have:=y2 i h;rwa [show Na = qs.length by omega] at this),y3⟩ fun e ⟨_,hst⟩=>?_
    exact .oA [(0,some 0)] [1]
theorem ji1 (l:List UInt8) (a:Nat) (hl:l.length≤400) (ha:a≤l.length) :
 ∃ (k:Int) (b:Nat),0≤k∧k < 1152921504606846976∧b≤l.length∧Spc Tryz.prog kM [.ptr 0 1 0 0] [(0,oC l a)] (vI k) [(0,oC l b)]:=by
 obtain ⟨u,a1,u1,u2,ha1,s1⟩:=jY l a 60000 hl ha (by omega)
 obtain ⟨v,a2,v1,v2,ha2,s2⟩:=jY l a1 60000 hl ha1 (by omega)
 obtain ⟨w,a3,w1,w2,ha3,s3⟩:=jY l a2 7 hl ha2 (by omega)
 have h1:0≤u * v:=Int.mul_nonneg u1 v1
 have h2:u * v≤60000 * 60000:=Int.mul_le_mul (by omega) (by omega) v1 (by omega)
 refine ⟨u * v + w,a3,by omega,by omega,ha3,?_⟩
 have hw1:IntKind.i64.wrap (u * v) = u * v:=IntWalk.i64_in _ (by omega)
 have hw2:IntKind.i64.wrap (u * v + w) = u * v + w:=IntWalk.i64_in _ (by omega)
 refine qe Yp mixm (by simp) fun e _ hst=>qh ?_
 unfold kB
 refine sW ?_
 refine C1.draw 0 l a _ s1 rfl rfl rfl ?_
 refine sW ?_
 refine C1.draw 0 l a1 _ s2 rfl rfl rfl ?_
 simp only [tZ,↓un_u,simprocAttr,hw1]
 refine C1.draw 0 l a2 _ s3 rfl rfl rfl ?_
 simp only [tZ,↓un_u,simprocAttr,hw1,hw2]
 exact .oA [(0,some 0)] []
end Go.Proofs
namespace Go.Proofs
open Go Go.TL
set_option maxRecDepth 4000
set_option maxHeartbeats 4000000
structure DrE (x:Src) (d:Edt):Prop where
 kind:1≤d.kind∧d.kind≤4
 len:d.row.length≤8
 id:0≤d.id∧d.id≤1048575
theorem qn4 (x:Src) (hD:DrS x.sch) (hr:∀ r∈x.rows,0 < r.length) (hri:∀ r∈x.rows,1≤hd r∧hd r≤1048575) (hn:x.rows.length≤1000) (l:List UInt8) (a:Nat) (hl:l.length≤400) (ha:a≤l.length) :
 ∃ r:Edt×Nat,(DrE x r.1∧r.2≤l.length)∧Spc Tryz.prog ye [.ptr 0 1 0 0,srcT x] [(0,oC l a)] (edtT r.1) [(0,oC l r.2)]:=by
 obtain ⟨k,a1,k1,k2,ha1,sK⟩:=Qb l a 1 4 hl ha (by omega) (by omega)
 obtain ⟨w,c,i1,i2,hc,sI⟩:=Qb l a1 1 60 hl ha1 (by omega) (by omega)
 have hnc:=(qT hD.ok).nc
 refine zg qf9 mixm (fun r:Edt×Nat=>edtT r.1) (fun r=>[(0,oC l r.2)]) (by simp) ?_
 unfold wL
 refine sW ?_
 refine XE.mp (fun _ _=>C1.draw 0 l a _ sK rfl rfl rfl) ?_
 refine sW ?_
 refine XE.mp (fun _ _=>C1.draw 0 l a1 _ sI rfl rfl rfl) ?_
 rcases Nat.eq_zero_or_pos x.rows.length with h0 | h0
 focus
  have e0:decide ((x.rows.length:Int) > 0) = false:=decide_eq_false (by omega)
  simp only [tZ,↓un_u,simprocAttr,e0]
  refine XE.mp (fun _ _=>C2.no (by simp)) ?_
  refine sW ?_
  obtain ⟨v,hv⟩:∃ v,v = w:=⟨_,rfl⟩
  obtain ⟨b,hb⟩:∃ b,b = c:=⟨_,rfl⟩
  rw [← hv,← hb]
  have hb:b≤l.length:=by omega
  have hvi:0≤v∧v≤1048575:=by omega
 rotate_left
 focus
  have e0:decide ((x.rows.length:Int) > 0) = true:=decide_eq_true (by omega)
  obtain ⟨o,a3,ha3,sO⟩:=zF6 l c 2 hl hc (by omega)
  obtain ⟨j,a4,j1,j2,ha4,sJ⟩:=jY l a3 x.rows.length hl ha3 (by omega)
  obtain ⟨m,rfl⟩:=Int.eq_ofNat_of_zero_le j1
  have hm:m < x.rows.length:=by omega
  have hgm:=qU (hr _ (List.getElem_mem hm))
  have hrm:=hr _ (List.getElem_mem hm)
  simp only [tZ,↓un_u,simprocAttr,e0]
  refine XE.mp (fun _ _=>C2.one (by trivial)) ?_
  refine XE.mp (fun _ _=>C1.draw 0 l c _ sO rfl rfl rfl) ?_
  refine sW ?_
  refine XE.brB (fun h3=>?_) (fun h3=>?_)
  focus
   refine XE.mp (fun _ _=>C1.draw 0 l a3 _ sJ rfl rfl rfl) ?_
   simp only [tZ,↓un_u,simprocAttr,Int.toNat_natCast,qd hm,hgm]
   refine XE.sd (by omega) (XE.sd (by omega) (XE.sd (by kernel_rfl) ?_))
   have hvi:=hri _ (List.getElem_mem hm)
   generalize hd x.rows[m] = v at hvi ⊢
   obtain ⟨b,hb⟩:∃ b,b = a4:=⟨_,rfl⟩
   rw [← hb]
   have hb:b≤l.length:=by omega
  rotate_left
  focus
   obtain ⟨v,hv⟩:∃ v,v = w:=⟨_,rfl⟩
   obtain ⟨b,hb⟩:∃ b,b = a3:=⟨_,rfl⟩
   rw [← hv,← hb]
   have hb:b≤l.length:=by omega
   have hvi:0≤v∧v≤1048575:=by omega
 all_goals (
  refine XE.brB (fun h5=>?_) (fun h5=>?_)
  ·obtain ⟨⟨row,a2⟩,⟨hr2,ha2⟩,sR⟩:=qr4 x.sch hD l b hl hb
   dsimp only at hr2 ha2 sR
   have hrl:=(WO hr2).2.1
   obtain ⟨r0,rs,rfl⟩:∃ r0 rs,row = r0 :: rs:=by
    cases row with
    | nil=>have:=Jx hr2;simp at this
    | cons r0 rs=>exact ⟨r0,rs,rfl⟩
   refine XE.mp (fun _ _=>C1.drawF 0 24588 l b a2 sR rfl rfl (zy6 _) rfl) ?_
   simp only [tZ,↓un_u,simprocAttr,beq_iff_eq,beq_eq_false_iff_ne]
   refine XE.brN (fun h6=>?_) (fun h6=>?_)
   ·refine XE.sd (by omega) (XE.sd (by omega) ?_)
    refine XE.fin (⟨k,v :: rs,0⟩,a2) ⟨⟨⟨k1,k2⟩,by simp at hrl ⊢;omega,by simp⟩,ha2⟩ fun e ⟨_,hst⟩=>?_
    exact .oA [(0,some 0)] [24588]
   ·refine XE.fin (⟨k,r0 :: rs,0⟩,a2) ⟨⟨⟨k1,k2⟩,by dsimp only;omega,by simp⟩,ha2⟩ fun e ⟨_,hst⟩=>?_
    exact .oA [(0,some 0)] [24588]
  ·refine XE.fin (⟨k,[],v⟩,b) ⟨⟨⟨k1,k2⟩,by simp,by dsimp only;omega⟩,hb⟩ fun e ⟨_,hst⟩=>?_
   exact .oA [(0,some 0)] []
  )
theorem qc7 (x:Src) (hx:DrX x) (most:Int) (l:List UInt8) (a:Nat) (hl:l.length≤400) (ha:a≤l.length) (hm:0≤most∧most≤100) :
 ∃ r:List Edt×Nat,((atS x r.1).2 = 0∧r.1.length≤most∧(∀ d∈r.1,DrE x d)∧r.2≤l.length)∧Spc Tryz.prog zQ [.ptr 0 1 0 0,srcT x,vI most] [(0,oC l a)] (.asl 1 r.1.length) [(0,oC l r.2),(1,.arr 3 (r.1.map edtT) false)]:=by
 obtain ⟨v,a1,v1,v2,ha1,sN⟩:=jY l a (most + 1) hl ha (by omega)
 obtain ⟨N,rfl⟩:=Int.eq_ofNat_of_zero_le v1
 have hw:IntKind.i64.wrap (most + 1) = most + 1:=IntWalk.i64_in _ (by omega)
 refine zg YX mixm (fun r:List Edt×Nat=>.asl 1 r.1.length) (fun r=>[(0,oC l r.2),(1,.arr 3 (r.1.map edtT) false)]) (by simp) ?_
 unfold kQ
 simp only [tZ,↓un_u,simprocAttr,hw]
 refine XE.mp (fun _ _=>C1.draw 0 l a _ sN rfl rfl rfl) ?_
 refine sW ?_
 refine XE.loopF mixm [7,8] (fun y:Nat×List Edt×Nat=>y.2.1.length + y.1≤N∧(atS x y.2.1).2 = 0∧(∀ d∈y.2.1,DrE x d)∧y.2.2≤l.length) (fun y=>[(7,.asl 1 y.2.1.length),(8,vI y.1)]) (fun y=>[(0,oC l y.2.2),(4096,.arr 5 [srcT (atS x y.2.1).1] false),(1,.arr 3 (y.2.1.map edtT) false)]) (fun y=>y.1) (N,[],a1) ⟨by simp,rfl,by simp,ha1⟩ (fun e ⟨_,hst⟩=>?_) fun T' y hy ih=>?_
 ·show Le _ _ ⟨_,[(0,oC l a1),(4096,.arr 5 [srcT x] false),(1,.arr 3 [] false)]⟩
  exact .oA [(0,some 0),(4096,some 4096),(1,none)] []
 obtain ⟨k,es,a2⟩:=y
 obtain ⟨y1,y2,y3,y4⟩:=hy
 dsimp only at y1 y2 y3 y4
 have hso:=zA2 hx.ok (by rw [hx.gone,hx.ver];simp) y2
 have hsn:=fun d=>qW1 es x d y2
 simp only [tZ,↓un_u,simprocAttr,decide_eq_true_eq,decide_eq_false_iff_not]
 generalize hz2:(atS x es).1 = z at hso hsn ⊢
 refine XE.brN (fun h4=>?_) (fun h4=>?_)
 ·have hok:=hso.1
  have hsm:qI3 z:=⟨(qT hok.sch).sm,fun r hr=>by
   have:=(WO (hok.rows r hr)).2.1
   have:=(qT hok.sch).nc
   omega⟩
  have hnr:=hok.nr
  obtain ⟨⟨d,a3⟩,⟨hd1,ha3⟩,sE⟩:=qn4 z (by rw [hso.2.2];exact hx.sch) hok.rowp (fun r hr=>jA0 (hok.rows r hr)) (by omega) l a2 hl y4
  dsimp only at hd1 ha3 sE
  have hdl:=hd1.len
  have hsn:=hsn d
  have hwk:=zk (i:=k) (by omega) (by omega)
  refine XE.mp (fun _ _=>C1.draw 0 l a2 _ sE rfl rfl rfl) ?_
  refine sW ?_
  refine XE.mp (fun _ _=>C1.im (qi2 z d hsm (by omega)) (by rfl) (by rfl)) ?_
  simp only [tZ,↓un_u,simprocAttr,hwk,beq_iff_eq,beq_eq_false_iff_ne]
  refine XE.brN (fun h5=>?_) (fun h5=>?_)
  ·rw [if_neg (by rw [h5];simp)] at hsn
   refine XE.sd (by omega) ?_
   refine XE.next ih (k - 1,es ++ [d],a3) ⟨by simp;omega,by dsimp only;rw [hsn],fun d2 hd2=>?_,ha3⟩ (by dsimp only;omega) fun e ⟨_,hst⟩=>?_
   ·rcases List.mem_append.1 hd2 with h | h
    ·exact y3 d2 h
    ·rw [List.mem_singleton.1 h];exact ⟨hd1.kind,hdl,hd1.id⟩
   ·dsimp only
    simp only [hsn]
    exact .oA [(0,some 0),(4096,some 4096),(1,some 1)] []
  ·refine XE.next ih (k - 1,es,a3) ⟨by dsimp only;omega,y2,y3,ha3⟩ (by dsimp only;omega) fun e ⟨_,hst⟩=>?_
   dsimp only
   rw [hz2]
   exact .oA [(0,some 0),(4096,some 4096),(1,some 1)] []
 ·refine XE.fin (es,a2) ⟨y2,by dsimp only;omega,y3,y4⟩ fun e ⟨_,hst⟩=>?_
  exact .oA [(0,some 0),(1,some 1)] []
theorem qc8 (x:Src) (hx:DrX x) (most:Int) (l:List UInt8) (a:Nat) (hl:l.length≤400) (ha:a≤l.length) (hm:0≤most∧most≤100) :
 ∃ r:List Edt×Nat,((atS x r.1).2 = 0∧r.1.length≤most∧(∀ d∈r.1,DrE x d)∧r.2≤l.length)∧Spc Tryz.prog zQ [.ptr 0 1 0 0,srcT x,vI most] [(0,oC l a)] (.sl 3 (r.1.map edtT)) [(0,oC l r.2)]:=by
 obtain ⟨r,hr,hs⟩:=qc7 x hx most l a hl ha hm
 refine ⟨r,hr,hs.weaken ?_⟩
 refine .of [(0,some 0)] [1] rfl rfl ?_ ?_
 all_goals (try exact clA)
theorem qj5 (x:Src) (hx:DrX x) (most:Int) (l:List UInt8) (a:Nat) (hl:l.length≤400) (ha:a≤l.length) (hm:0≤most∧most≤100) :
 ∃ r:List Edt×Nat,((atS x r.1).2 = 0∧r.1.length≤most∧(∀ d∈r.1,1≤d.kind∧d.kind≤4∧d.row.length≤8)∧r.2≤l.length)∧Spc Tryz.prog zQ [.ptr 0 1 0 0,srcT x,vI most] [(0,oC l a)] (.sl 3 (r.1.map edtT)) [(0,oC l r.2)]:=by
 obtain ⟨r,⟨h1,h2,h3,h4⟩,h⟩:=qc8 x hx most l a hl ha hm
 exact ⟨r,⟨h1,h2,fun d hd=>⟨(h3 d hd).kind.1,(h3 d hd).kind.2,(h3 d hd).len⟩,h4⟩,h⟩
end Go.Proofs
namespace Go.Proofs
open Go Go.TL
set_option maxRecDepth 4000
set_option maxHeartbeats 8000000
open So
theorem SrcOk.smx {s:Src} (h:SrcOk s):qI3 s:=⟨(qT h.sch).sm,fun r hr=>by
 have h1:=(WO (h.rows r hr)).2.1
 have h2:=(qT h.sch).nc
 omega⟩
structure TwoOk (a b:Ext):Prop where
 pa:a.proj = b.proj
 pk:a.picks = b.picks
 oa:ExtOk a
 ob:ExtOk b
 sa:ExtSm a
 sb:ExtSm b
 na:a.rows.length≤200
 nb:b.rows.length≤200
theorem TwoOk.symm {a b:Ext} (h:TwoOk a b):TwoOk b a:=⟨h.pa.symm,h.pk.symm,h.ob,h.oa,h.sb,h.sa,h.nb,h.na⟩
theorem zY7 (s:Src) (l:List Pk) (k:Int):∀ (m A:List (List Int)),AscR A→(∀ r∈A,r.length = l.length + 1)→AscR (m.foldl (ZH s l k) A)∧(∀ r∈m.foldl (ZH s l k) A,r.length = l.length + 1)∧(m.foldl (ZH s l k) A).length≤A.length + m.length
 | [],A,h1,h2=>⟨h1,h2,by simp⟩
 | r :: m,A,h1,h2=>by
   obtain ⟨k1,k2,k3⟩:=zY7 s l k m (ZH s l k A r) (qs1 h1) (fun x hx=>by
    rcases (Yi h1).1 hx with e | ⟨hx,_⟩
    ·rw [e];simp [rowX]
    ·exact h2 x hx)
   have h3:=Yj A (rowX s l k r)
   refine ⟨k1,k2,?_⟩
   have h4:(ZH s l k A r).length≤A.length + 1:=h3
   rw [List.foldl_cons,List.length_cons]
   omega
theorem ji2 {s:Src} (h:SrcOk s) (d:Dcl):(ownR s d).length≤200:=by
 have:=h.nr
 unfold ownR
 split
 ·simp
 ·exact Nat.le_trans (List.length_filter_le _ _) h.nr
theorem jo7 {s:Src} (h:SrcOk s) (d:Dcl) (l:List Pk) (k:Int) (hl:l.length≤800):ExtOk ⟨d.proj,s.ver,l,qi6 s d l k⟩∧ExtSm ⟨d.proj,s.ver,l,qi6 s d l k⟩∧(qi6 s d l k).length≤200:=by
 obtain ⟨h1,h2,h3⟩:=zY7 s l k (ownR s d) [] List.Pairwise.nil (by simp)
 have h4:=ji2 h d
 have h5:(qi6 s d l k).length≤200:=by
  unfold qi6
  simp only [List.length_nil] at h3
  omega
 refine ⟨⟨KP.2 ⟨fun r hr=>by rw [h2 r hr];omega,h1⟩,h2⟩,⟨⟨by dsimp only;omega,fun r hr=>by rw [h2 r hr];omega⟩,by dsimp only;omega⟩,h5⟩
theorem qX0:ExtOk ext0∧ExtSm ext0:=⟨⟨by rfl,by simp⟩,⟨⟨by decide,by simp⟩,by decide⟩⟩
theorem ji3 {s s2:Src} (h1:SrcOk s) (h2:SrcOk s2) (he:s2.sch = s.sch) (d:Dcl) (l:List Pk) (k:Int) (hl:l.length≤800):TwoOk (ZI s d l k) (ZI s2 d l k):=by
 have hb:buildE s2 d l k = buildE s d l k:=by
  unfold buildE
  rw [qm6.2 h1,qm6.2 h2,he]
 unfold ZI
 rw [hb]
 split
 ·exact ⟨rfl,rfl,qX0.1,qX0.1,qX0.2,qX0.2,by decide,by decide⟩
 ·obtain ⟨a1,a2,a3⟩:=jo7 h1 d l k hl
  obtain ⟨b1,b2,b3⟩:=jo7 h2 d l k hl
  exact ⟨rfl,rfl,a1,b1,a2,b2,a3,b3⟩
theorem jA1 (l:List UInt8):∃ (s:Src) (d:Dcl) (pl:List Pk) (es:List Edt) (k:Int),(DrX s∧(atS s es).2 = 0∧es.length≤6∧(∀ d∈es,1≤d.kind∧d.kind≤4∧d.row.length≤8)∧0≤k∧k < 1152921504606846976∧pl.length≤800)∧
 Spc Tryz.prog YR [vL l] [] (.tup [extT (ZI s d pl k),extT (ZI (atS s es).1 d pl k),.sl 3 (es.map edtT),vI k]) []:=by
 have hl4:(l.take 400).length≤400:=by rw [List.length_take];omega
 obtain ⟨⟨s,a1⟩,⟨hX,ha1⟩,sS⟩:=qc6 8 (l.take 400) 0 hl4 (by omega) (by omega)
 dsimp only at hX ha1 sS
 obtain ⟨⟨d,a2⟩,⟨hd0,ha2⟩,sD⟩:=JT s.sch hX.sch (l.take 400) a1 hl4 ha1
 dsimp only at hd0 ha2 sD
 obtain ⟨k,a3,k1,k2,ha3,sK⟩:=ji1 (l.take 400) a2 hl4 ha2
 obtain ⟨⟨es,a4⟩,⟨he0,hel,hek,ha4⟩,sE⟩:=qj5 s hX 6 (l.take 400) a3 hl4 ha3 (by omega)
 dsimp only at he0 hel hek ha4 sE
 have hok:=hX.ok
 have hsm:=hok.smx
 have hsc:=qT hok.sch
 have hnl:0 < s.sch.lists.length:=by
  obtain ⟨a,b,e,_⟩:=hX.sch.ls
  rw [e];simp
 obtain ⟨o1,o2,o3⟩:=zA2 hok (by rw [hX.gone,hX.ver];simp) he0
 have hsm2:=o1.smx
 refine ⟨s,d,qV1 s.sch d,es,k,⟨hX,he0,by omega,hek,k1,k2,zi6 _ _⟩,?_⟩
 have hPl:=zi6 s.sch d
 have sP:=zi7 s.sch hsm.1 (by omega) d
 have sA:=zF2 s es es.length hsm (fun d hd=>by have:=hek d hd;omega) (by omega)
 rw [show atI s es es.length = atS s es by rw [atI,if_neg (by omega),Int.toNat_natCast,List.take_length]] at sA
 have sB1:=qi7 s d (qV1 s.sch d) k hsm (by omega) (by omega)
 have sB2:=qi7 (atS s es).1 d (qV1 s.sch d) k hsm2 (by rw [o3];omega) (by omega)
 refine qe zf4 mixm (by simp) fun e _ hst=>qh ?_
 unfold WA
 refine sW ?_
 refine C1.newdraw 8196 (zE7 l) rfl rfl ?_
 generalize l.take 400 = m at hl4 sS sD sK sE ha1 ha2 ha3 ha4 ⊢
 refine sW ?_
 refine C1.draw 8196 m 0 _ sS rfl rfl rfl ?_
 refine sW ?_
 refine C1.draw 8196 m a1 _ sD rfl rfl rfl ?_
 refine sW ?_
 refine C1.im sP (by rfl) (by rfl) ?_
 refine sW ?_
 refine C1.draw 8196 m a2 _ sK rfl rfl rfl ?_
 refine sW ?_
 refine C1.draw 8196 m a3 _ sE rfl rfl rfl ?_
 refine sW ?_
 refine C1.im sA (by rfl) (by rfl) ?_
 refine sW ?_
 refine C1.im sB1 (by rfl) (by rfl) ?_
 refine sW ?_
 refine C1.im sB2 (by rfl) (by rfl) ?_
 refine sW ?_
 refine ⟨by kernel_rfl,?_⟩
 exact .oA [] []
end Go.Proofs
namespace Go.Proofs
open Go Go.TL
set_option maxRecDepth 4000
set_option maxHeartbeats 8000000
open So
theorem ji4 (x:ByteArray):eqB x x = true:=by
 show (x.toList == x.toList) = true
 simp
def jt4 (a b:Ext):Bool:=eqB a.proj b.proj && (a.ver == b.ver) && yH a.picks b.picks && WN a.rows b.rows
theorem zF7 (a:Ext):jt4 a a = true:=by
 unfold jt4
 rw [ji4,zF1.2 rfl,qM3.2 rfl]
 simp
theorem jy7 {s:Src} {es:List Edt} (hX:DrX s) (h:(atS s es).2 = 0) (d:Dcl) (pl:List Pk) (k:Int) (hl:pl.length≤800):TwoOk (ZI s d pl k) (ZI (atS s es).1 d pl k):=by
 obtain ⟨o1,o2,o3⟩:=zA2 hX.ok (by rw [hX.gone,hX.ver];simp) h
 exact ji3 hX.ok o1 o3 d pl k hl
end Go.Proofs
namespace Go.Proofs
open Go Go.TL
def modI (n m:Int):Int:=if m < 1 then 0 else n % m
theorem qN6 (n m:Int) (hm:m≤1000000000):Spc Tryz.prog Yf [vI n,vI m] [] (vI (modI n m)) []:=by
 refine qe zn2 mixm (by simp) fun e _ hst=>qh ?_
 unfold YU
 simp only [tZ,↓un_u,simprocAttr,decide_eq_true_eq,decide_eq_false_iff_not]
 refine ⟨fun h=>?_,fun h=>?_⟩
 ·rw [modI,if_pos h]
  exact .imR rfl rfl
 rw [modI,if_neg h]
 have h1:=Int.tmod_lt_of_pos n (show 0 < m by omega)
 have h2:=Int.lt_tmod_of_pos n (show 0 < m by omega)
 have h3:=Int.emod_nonneg n (b:=m) (by omega)
 have h4:=Int.emod_lt_of_pos n (b:=m) (by omega)
 have h5:n % m = n.tmod m∨n % m = n.tmod m + m:=by
  rw [Int.tmod_eq_emod]
  split
  ·left;omega
  ·right
   rw [show (m.natAbs:Int) = m by omega]
   omega
 refine ⟨by omega,fun h=>?_,fun h=>?_⟩
 ·have hw:IntKind.i64.wrap (n.tmod m + m) = n % m:=by rw [IntWalk.i64_in _ (by omega)];omega
  rw [hw]
  exact .imR rfl rfl
 ·have hw:n.tmod m = n % m:=by omega
  rw [hw]
  exact .imR rfl rfl
end Go.Proofs
namespace Go.Proofs
open Go Go.TL
set_option maxRecDepth 4000
set_option maxHeartbeats 8000000
open So
abbrev prT (p:Ext×Ext):T:=.agg [vS p.1.proj,vI p.1.ver,vPs p.1.picks,vRw p.1.rows,vS p.2.proj,vI p.2.ver,vPs p.2.picks,vRw p.2.rows]
theorem zY8:∀ (rs l:List (List Int)) (x:List Int),x∈rs.foldl putR l→(x∈l∨x∈rs):=fun rs=>by
 have hput:∀ (l acc:List (List Int)) (row:List Int) (b:Bool) (x:List Int),x∈(l.foldl (putS row) (acc,b)).1→x∈acc∨x∈l∨x = row:=by
  intro l
  induction l with
  | nil=>intro acc row b x h;exact .inl h
  | cons r l ih=>
    intro acc row b x h
    rw [List.foldl_cons] at h
    unfold putS at h
    split at h
    ·rcases ih _ _ _ _ h with k | k | k
     ·exact .inl k
     ·exact .inr (.inl (List.mem_cons_of_mem _ k))
     ·exact .inr (.inr k)
    ·split at h
     ·rcases ih _ _ _ _ h with k | k | k
      ·rcases List.mem_append.1 k with k | k
       ·rcases List.mem_append.1 k with k | k
        ·exact .inl k
        ·exact .inr (.inr (List.mem_singleton.1 k))
       ·rw [List.mem_singleton.1 k];exact .inr (.inl (by simp))
      ·exact .inr (.inl (List.mem_cons_of_mem _ k))
      ·exact .inr (.inr k)
     ·rcases ih _ _ _ _ h with k | k | k
      ·rcases List.mem_append.1 k with k | k
       ·exact .inl k
       ·rw [List.mem_singleton.1 k];exact .inr (.inl (by simp))
      ·exact .inr (.inl (List.mem_cons_of_mem _ k))
      ·exact .inr (.inr k)
 have hp:∀ (l:List (List Int)) (row x:List Int),x∈putR l row→x∈l∨x = row:=by
  intro l row x h
  unfold putR at h
  dsimp only at h
  split at h
  ·rcases hput _ _ _ _ _ h with k | k | k
   ·simp at k
   ·exact .inl k
   ·exact .inr k
  ·rcases List.mem_append.1 h with h | h
   ·rcases hput _ _ _ _ _ h with k | k | k
    ·simp at k
    ·exact .inl k
    ·exact .inr k
   ·exact .inr (List.mem_singleton.1 h)
 induction rs with
 | nil=>intro l x h;exact .inl h
 | cons r rs ih=>
   intro l x h
   rcases ih _ _ h with k | k
   ·rcases hp _ _ _ k with k | k
    ·exact .inl k
    ·rw [k];exact .inr (by simp)
   ·exact .inr (List.mem_cons_of_mem _ k)
theorem zB3:∀ (rs l:List (List Int)),(rs.foldl putR l).length≤l.length + rs.length
 | [],l=>by simp
 | r :: rs,l=>by
   have h1:=zB3 rs (putR l r)
   have h2:=Yj l r
   rw [List.foldl_cons,List.length_cons]
   omega
theorem zF8 (a:Ext) (c:Chg) (ha:ExtSm a) (hc:ChgSm c):Spc Tryz.prog yE [extT (appX a c),extT (appX a c)] [] (vB true) []:=by
 have h:=qo9 (appX a c) (appX a c)
 have hv:=zF7 (appX a c)
 unfold jt4 at hv
 rw [hv] at h
 have hap:=ha.picks
 have hr1:=ha.rows
 have hr2:=hc.rows
 have hl:(appR a.rows c.gone c.rows).length≤a.rows.length + c.rows.length:=by
  unfold appR
  have h1:=zB3 c.rows (a.rows.filter fun r=>!c.gone.contains (hd r))
  have h2:=List.length_filter_le (fun r:List Int=>!c.gone.contains (hd r)) a.rows
  omega
 have h1:=hr1.1
 have h2:=hr2.1
 refine h ?_ ?_ ?_
 ·unfold appX;split
  ·decide
  ·dsimp only;omega
 ·unfold appX;split
  ·decide
  ·dsimp only;omega
 ·unfold appX;split
  ·simp
  ·intro r hr
   rcases zY8 _ _ _ hr with k | k
   ·have:=hr1.2 r (List.mem_filter.1 k).1;omega
   ·have:=hr2.2 r k;omega
theorem ji5 {a b:Ext} (ha:ExtSm a) (hb:ExtSm b):ChgSm (qi3 a b):=by
 have h1:=ha.rows.1
 have h2:=hb.rows.1
 unfold qi3
 split
 ·exact ⟨⟨by decide,by simp⟩,by decide⟩
 ·have g1:=qA3 b.rows a.rows
  have g2:=qA4 a.rows b.rows
  exact ⟨⟨by dsimp only;omega,fun r hr=>hb.rows.2 r (List.mem_filter.1 hr).1⟩,by dsimp only;omega⟩
theorem zF9 (c:Chg) (h:ChgSm c):Spc Tryz.prog Zu [chgT c,chgT c] [] (vB true) []:=by
 have:=zj4 c c h.gone h.rows
 rw [beq_self_eq_true,JL.2 rfl,qM3.2 rfl] at this
 exact this
theorem ji6 (n:Int) {m:Int} (h:0 < m):0≤modI n m∧modI n m < m:=by
 unfold modI
 rw [if_neg (by omega)]
 exact ⟨Int.emod_nonneg n (by omega),Int.emod_lt_of_pos n h⟩
theorem YD (l:List UInt8) (raw:Ext) (r:Chg) (n:Int) (hw1:∀ x∈raw.rows,x.length * 8≤140737488355328) (hw2:raw.picks.length * 16≤140737488355328) (hw3:∀ x∈r.rows,x.length * 8≤140737488355328):Spc Tryz.prog Qd [vL l,extT raw,chgT r,vI n] [] (vB true) []:=by
 obtain ⟨s,d,pl,es,k,⟨hX,he,_,_,_,_,hpl⟩,sT⟩:=jA1 l
 have h0:=jy7 hX he d pl k hpl
 generalize ZI s d pl k = a at sT h0
 generalize ZI (atS s es).1 d pl k = b at sT h0
 refine QL [15] Wz mixm (by simp) fun e _ hst=>qh ?_
 unfold jR
 simp only [JX,List.contains_cons,List.contains_nil,Nat.reduceBEq,Bool.or_false,Bool.or_true,Bool.true_or,Bool.false_or,cond_true,cond_false]
 refine sW ?_
 refine sD ?_
 refine ⟨fun h2=>?_,fun h2=>?_⟩
 ·refine C1.im qi8 (by rfl) (by rfl) ?_
  refine sW ?_
  exact .oA [] []
 refine C1.im sT (by rfl) (by rfl) ?_
 refine sW ?_
 obtain ⟨P,hP⟩:∃ P:List (Ext×Ext),P = [(a,b),(b,a),(a,raw),(raw,a),(a,⟨a.proj,3,a.picks,raw.rows⟩),(⟨a.proj,3,a.picks,raw.rows⟩,⟨a.proj,3,a.picks,raw.rows⟩)]:=⟨_,rfl⟩
 have hP6:P.length = 6:=by rw [hP];rfl
 have sm1:ExtSm raw:=⟨⟨by omega,hw1⟩,hw2⟩
 have sm2:ExtSm ⟨a.proj,3,a.picks,raw.rows⟩:=⟨⟨by dsimp only;omega,hw1⟩,h0.sa.picks⟩
 have hPs:∀ p∈P,ExtSm p.1∧ExtSm p.2:=fun p hp=>by
  rw [hP] at hp
  simp only [List.mem_cons,List.not_mem_nil,or_false] at hp
  rcases hp with e | e | e | e | e | e
  ·rw [e];exact ⟨h0.sa,h0.sb⟩
  ·rw [e];exact ⟨h0.sb,h0.sa⟩
  ·rw [e];exact ⟨h0.sa,sm1⟩
  ·rw [e];exact ⟨sm1,h0.sa⟩
  ·rw [e];exact ⟨h0.sa,sm2⟩
  ·rw [e];exact ⟨sm2,sm2⟩
 have smr:ChgSm r:=⟨⟨by omega,hw3⟩,by omega⟩
 refine qr mixm (α:=Nat) [77] (fun i=>i≤6) (fun i=>[(77,vI i)]) (fun i=>[(4100,.arr 3 [chgT r] false),(24648,.arr 8 (P.map prT) false)]) (fun i=>6 - i) 0 (by omega) ?_ fun i hi=>?_
 ·rw [hP]
  exact .oA [(4100,some 4100),(24648,some 24648)] []
 refine sD ?_
 refine ⟨fun h3=>?_,fun h3=>?_⟩
 ·have hi2:i < P.length:=by omega
  have hwi:=qg (i:=i) (by omega)
  obtain ⟨q1,q2⟩:=hPs _ (List.getElem_mem hi2)
  simp only [tZ,↓un_u,simprocAttr,Int.toNat_natCast,qd hi2]
  generalize P[i] = p at q1 q2 ⊢
  obtain ⟨x,y⟩:=p
  dsimp only at q1 q2 ⊢
  refine ⟨by omega,by omega,?_⟩
  refine C1.im (YH x y q1 q2) (by rfl) (by rfl) ?_
  refine sW ?_
  repeat (first | refine ⟨by omega,?_⟩ | refine ⟨by kernel_rfl,?_⟩)
  refine C1.im (zj3 x y q1 q2) (by rfl) (by rfl) ?_
  have hcs:=ji5 q1 q2
  generalize qi3 x y = c at hcs ⊢
  simp only [tZ,↓un_u,simprocAttr,bne_self_eq_false,Bool.false_or]
  refine C2.im (fun _=>zF9 c hcs) (fun _=>rfl) (by rfl) ?_
  simp only [tZ,↓un_u,simprocAttr,bne_self_eq_false,Bool.false_or,tD]
  have hcg:=hcs.gone
  refine ⟨fun h4=>?_,fun h4=>?_⟩
  focus
   have hM:=ji6 n (m:=(c.gone.length:Int)) (by omega)
   have sM:=qN6 n (c.gone.length:Int) (by omega)
   obtain ⟨j,hj⟩:=Int.eq_ofNat_of_zero_le hM.1
   rw [hj] at sM hM
   have hj2:j < c.gone.length:=by omega
   have sM3:=qN6 n 3 (by decide)
   refine ⟨by omega,?_⟩
   refine C1.im sM (by rfl) (by rfl) ?_
   simp only [tZ,↓un_u,simprocAttr,Int.toNat_natCast,qd hj2]
   refine ⟨by omega,by omega,?_⟩
   refine C1.im sM3 (by rfl) (by rfl) ?_
   simp only [tZ,↓un_u,simprocAttr,Int.toNat_natCast,qd hj2]
   refine ⟨by omega,by omega,by kernel_rfl,?_⟩
   rw [← List.map_set]
   have hgl:(c.gone.set j (IntKind.i64.wrap (c.gone[j] + IntKind.i64.wrap (modI n 3 - 1)))).length = c.gone.length:=List.length_set
   obtain ⟨c2,hc2⟩:∃ c2,c2 = (⟨c.ver,c.gone.set j (IntKind.i64.wrap (c.gone[j] + IntKind.i64.wrap (modI n 3 - 1))),c.rows⟩:Chg):=⟨_,rfl⟩
   have hcs2:ChgSm c2:=by rw [hc2];exact ⟨hcs.rows,by dsimp only;omega⟩
   refine ju2 [(4100,.arr 3 [chgT r] false),(24648,.arr 8 (P.map prT) false),(32776,.arr 8 [prT (x,y)] false),(36896,.arr 3 [chgT c] false),(40992,.arr 3 [chgT c2] false)] ?_ ?_
   ·rw [hc2]
    generalize c.gone.set j (IntKind.i64.wrap (c.gone[j] + IntKind.i64.wrap (modI n 3 - 1))) = G at hgl ⊢
    rw [← hgl]
    refine .of [(4100,some 4100),(24648,some 24648),(32776,some 32776),(36896,some 36896),(40992,some 40992)] [57352] rfl (by first | rfl | (rw [hst];rfl)) ?_ ?_
    all_goals (try simp only [tL,simprocAttr,List.map_append,List.map_cons,List.map_nil,List.cons_append,List.nil_append])
    all_goals (try (repeat' (first | exact qZ | (apply zN;intro _;exact ⟨rfl,rfl⟩) | (apply qA;intro _;exact ⟨rfl,rfl⟩) | with_reducible apply za | with_reducible refine zo ⟨rfl,rfl⟩ ?_ | exact zO | with_reducible apply qV | with_reducible refine qJ ⟨rfl,rfl,?_⟩ ?_ | with_reducible apply And.intro | exact qW rfl | exact qW (by assumption) | (refine ⟨⟨?_,rfl,?_,rfl,?_⟩,trivial⟩ <;> first | (simp;done) | (apply qA;intro _;exact ⟨rfl,rfl⟩)) | trivial | rfl | (rw [qg (by omega)]) | omega)))
    show ltCs _ _ _ [vI c.ver,.asl 57352 G.length,vRw c.rows] [vI c.ver,vIs G,vRw c.rows]
    all_goals (try exact clA)
   clear hgl sM hM hj2 hj hc2 h4
   clear j
  rotate_left
  focus
   obtain ⟨c2,hc2⟩:∃ c2,c2 = c:=⟨_,rfl⟩
   have hcs2:ChgSm c2:=by rw [hc2];exact hcs
   refine ju2 [(4100,.arr 3 [chgT r] false),(24648,.arr 8 (P.map prT) false),(32776,.arr 8 [prT (x,y)] false),(36896,.arr 3 [chgT c] false),(40992,.arr 3 [chgT c2] false)] ?_ ?_
   ·rw [hc2]
    exact .oA [(4100,some 4100),(24648,some 24648),(32776,some 32776),(36896,some 36896),(40992,some 40992)] []
   clear hc2
  all_goals (
   obtain ⟨Z,hZ⟩:∃ Z:List Chg,Z = [c,c2,r,⟨1,[],r.rows⟩,⟨0,r.gone,[]⟩]:=⟨_,rfl⟩
   have hZ5:Z.length = 5:=by rw [hZ];rfl
   have hZs:∀ z∈Z,ChgSm z:=fun z hz=>by
    rw [hZ] at hz
    simp only [List.mem_cons,List.not_mem_nil,or_false] at hz
    rcases hz with e | e | e | e | e
    ·rw [e];exact hcs
    ·rw [e];exact hcs2
    ·rw [e];exact smr
    ·rw [e];exact ⟨smr.rows,by dsimp only;simp⟩
    ·rw [e];exact ⟨⟨by simp,by simp⟩,smr.gone⟩
   refine sW ?_
   refine qr mixm (α:=Nat) [139] (fun j=>j≤5) (fun j=>[(139,vI j)]) (fun j=>[(4100,.arr 3 [chgT r] false),(24648,.arr 8 (P.map prT) false),(32776,.arr 8 [prT (x,y)] false),(65572,.arr 3 (Z.map chgT) false)]) (fun j=>5 - j) 0 (by omega) ?_ fun j hj=>?_
   ·rw [hZ]
    exact .oA [(4100,some 4100),(24648,some 24648),(32776,some 32776),(65572,some 65572)] []
   refine sD ?_
   refine ⟨fun h5=>?_,fun h5=>?_⟩
   ·have hj2:j < Z.length:=by omega
    have hwj:=qg (i:=j) (by omega)
    have hz:=hZs _ (List.getElem_mem hj2)
    simp only [tZ,↓un_u,simprocAttr,Int.toNat_natCast,qd hj2]
    generalize Z[j] = z at hz ⊢
    refine ⟨by omega,by omega,?_⟩
    refine C1.im (WV x z q1 hz) (by rfl) (by rfl) ?_
    refine sW ?_
    repeat (first | refine ⟨by omega,?_⟩ | refine ⟨by kernel_rfl,?_⟩)
    refine C1.im (qW8 x z q1 hz) (by rfl) (by rfl) ?_
    simp only [tZ,↓un_u,simprocAttr,bne_self_eq_false,Bool.false_or]
    repeat (first | refine ⟨by omega,?_⟩ | refine ⟨by kernel_rfl,?_⟩)
    refine C2.im (fun _=>zF8 x z q1 hz) (fun _=>rfl) (by rfl) ?_
    simp only [tZ,↓un_u,simprocAttr,bne_self_eq_false,Bool.false_or,hwj]
    refine ⟨j + 1,by omega,by omega,?_⟩
    exact .oA [(4100,some 4100),(24648,some 24648),(32776,some 32776),(65572,some 65572)] []
   ·simp only [tZ,↓un_u,simprocAttr,hwi]
    refine ⟨i + 1,by omega,by omega,?_⟩
    exact .oA [(4100,some 4100),(24648,some 24648)] []
   )
 ·refine C1.im qi8 (by rfl) (by rfl) ?_
  refine sW ?_
  exact .oA [] []
end Go.Proofs
