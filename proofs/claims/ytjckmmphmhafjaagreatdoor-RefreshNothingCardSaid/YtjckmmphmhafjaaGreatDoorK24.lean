/- A part of the proof: trees of Go values, short forms, contracts. -/
import Derived.WalkKit
import Derived.Still
import Derived.MapKept
import GoSem.Builtin.Cap
import Derived.Laws.Externs
import GoSem.Extern.SlicesOverlaps
import Derived.Carry
import Derived.ProofKit
import Derived.OpenShut
import Derived.HandedShaped
import Derived.Lay
import Derived.LaidLaws
import Derived.MakeChecks
import Derived.SevenTiedAt
import Derived.Test.YtjckmmphmhafjaaGreatDoorChecked
import Derived.Test.YtjckmmphmhafjaaGreatDoorK23
set_option linter.unusedSimpArgs false
set_option linter.unusedVariables false
namespace Go.Proofs
open Go Go.TL
set_option maxRecDepth 4000
set_option maxHeartbeats 8000000
theorem nm_p:∀ n:Nat,n < 10→nameB ⟨#[112,dgt n]⟩ = true∧nameB ⟨#[113,dgt n]⟩ = true:=by
 have:∀ n:Fin 10,nameB ⟨#[112,dgt n.1]⟩ = true∧nameB ⟨#[113,dgt n.1]⟩ = true:=by decide +kernel
 exact fun n h=>this ⟨n,h⟩
theorem nm_qne:∀ i j:Nat,i < 10→j < 10→i≠j→eqB ⟨#[113,dgt i]⟩ ⟨#[113,dgt j]⟩ = false:=by
 have:∀ i j:Fin 10,i.1≠j.1→eqB ⟨#[113,dgt i.1]⟩ ⟨#[113,dgt j.1]⟩ = false:=by decide +kernel
 exact fun i j hi hj h=>this ⟨i,hi⟩ ⟨j,hj⟩ h
def nmSrc:ByteArray:=⟨#[115,114,99]⟩
theorem nm_src:nameB nmSrc = true:=by decide +kernel
abbrev dcl0:Dcl:=⟨⟨#[]⟩,⟨#[]⟩,cnd0,⟨0,0,0⟩,[]⟩
theorem dcl_ok {s:Sch} {P:Nat} {c:Cnd} {x:Smp} {qs:List Qst} {N:Nat} (hE:schE s = 0) (hP:P < 10) (hc:chkC s c = 0) (hx:smpE x = 0) (h1:1≤qs.length) (hN:qs.length = N) (hN3:N≤3) (hq:∀ i (h:i < qs.length),qstE s qs[i] = 0∧qs[i].name = ⟨#[113,dgt (N - i)]⟩) :
 dclE s ⟨⟨#[112,dgt P]⟩,nmSrc,c,x,qs⟩ = 0:=by
 rw [dclE,if_neg (by rw [hE];simp),if_neg (by rw [(nm_p P hP).1,nm_src];simp),if_neg (by rw [hc];simp),if_neg (by rw [hx];simp),if_neg (by dsimp only;omega)]
 refine firstE_of fun i hi=>?_
 have hi:i < qs.length:=hi
 have hpi:qAt qs i = qs[i]:=by rw [qAt,getD_get hi]
 obtain ⟨a,b⟩:=hq i hi
 rw [qsE,hpi,if_neg (by rw [a];simp),if_neg]
 intro k
 obtain ⟨x,hx,e⟩:=List.any_eq_true.1 k
 obtain ⟨j,hj,rfl⟩:=List.mem_take_iff_getElem.1 hx
 have hj2:j < i∧j < qs.length:=by have:j < min i qs.length:=hj;omega
 rw [b,(hq j (by omega)).2,nm_qne (N - j) (N - i) (by omega) (by omega) (by omega)] at e
 cases e
theorem c_draw_Codes_Declaration (s:Sch) (hd:DrS s) (l:List UInt8) (a:Nat) (hl:l.length≤400) (ha:a≤l.length) :
 ∃ r:Dcl×Nat,(dclE s r.1 = 0∧r.2≤l.length)∧Spc Tryz.prog F_draw_Codes_Declaration [.ptr 0 1 0 0,schT s] [(0,oC l a)] (dclT r.1) [(0,oC l r.2)]:=by
 have hE:=hd.ok
 have hok:=schE_ok hE
 obtain ⟨p,a1,p1,p2,ha1,sP⟩:=x_Next l a 3 hl ha (by omega)
 obtain ⟨P,rfl⟩:=Int.eq_ofNat_of_zero_le p1
 have hIt:=c_Itoa P (by omega)
 obtain ⟨⟨c0,a2⟩,⟨hc0,ha2⟩,sC⟩:=c_draw_Codes_Cond s hd l hl 1 a1 ha1 (by omega)
 dsimp only at hc0 ha2 sC
 have hcf0:=hc0.chk hE (by omega)
 have hca:chkC s (.mk 1 0 0 0 0 []) = 0:=(atom_ok (s:=s) 1 (nd_all s) rfl).chk hE (by omega)
 obtain ⟨sd,a3,sd1,sd2,ha3,sS⟩:=x_Next l a2 999 hl ha2 (by omega)
 obtain ⟨o1,a4,ha4,sO⟩:=x_One l a3 3 hl ha3 (by omega)
 obtain ⟨o2,a5,ha5,sO2⟩:=x_One l a4 3 hl ha4 (by omega)
 obtain ⟨f,a6,f1,f2,ha6,sF⟩:=x_Range l a5 2 5 hl ha5 (by omega) (by omega)
 obtain ⟨g,a7,g1,g2,ha7,sG⟩:=x_Range l a6 1 f hl ha6 (by omega) (by omega)
 obtain ⟨ra,ba,ra1,ra2,hba,sRa⟩:=x_Range l a5 1 3 hl ha5 (by omega) (by omega)
 obtain ⟨Na,rfl⟩:=Int.eq_ofNat_of_zero_le (show 0≤ra by omega)
 obtain ⟨rb,bb,rb1,rb2,hbb,sRb⟩:=x_Range l a7 1 3 hl ha7 (by omega) (by omega)
 obtain ⟨Nb,rfl⟩:=Int.eq_ofNat_of_zero_le (show 0≤rb by omega)
 refine spec_of_irX0 fn_draw_Codes_Declaration mixm (fun r:Dcl×Nat=>dclT r.1) (fun r=>[(0,oC l r.2)]) (by simp) ?_
 unfold ir_draw_Codes_Declaration
 refine sW ?_
 refine XE.mp (fun _ _=>C1.draw 0 l a _ sP rfl rfl rfl) ?_
 refine sW ?_
 refine XE.mp (fun _ _=>C1.im hIt (by rfl) (by rfl)) ?_
 simp only [tZ,↓un_u,simprocAttr,app_dg]
 refine XE.sd (show 1 + 1≤9223372036854775807 by omega) ?_
 refine XE.mp (fun _ _=>C1.draw 0 l a1 _ sC rfl rfl rfl) ?_
 refine sW ?_
 refine XE.mp (fun _ _=>C1.draw 0 l a2 _ sS rfl rfl rfl) ?_
 refine sW ?_
 refine XE.sd (by kernel_rfl) ?_
 refine XE.mp (fun _ _=>C1.draw 0 l a3 _ sO rfl rfl rfl) ?_
 refine sW ?_
 apply XE.brB
 ·intro h1
  refine XE.mp (fun _ _=>C1.draw 0 l a4 _ sO2 rfl rfl rfl) ?_
  refine sW ?_
  apply XE.brB
  focus
   intro h2
   refine XE.mp (fun _ _=>C1.draw 0 l a5 _ sF rfl rfl rfl) ?_
   refine sW ?_
   refine XE.mp (fun _ _=>C1.draw 0 l a6 _ sG rfl rfl rfl) ?_
   refine sW ?_
   refine XE.mp (fun _ _=>C1.draw 0 l a7 _ (sRb) rfl rfl rfl) ?_
   refine sW ?_
   refine XE.loopF mixm [6,19,23] (fun y:List Qst×Nat=>y.1.length≤Nb∧(∀ i (h:i < y.1.length),qstE s y.1[i] = 0∧y.1[i].name = ⟨#[113,dgt (Nb - i)]⟩)∧y.2≤l.length) (fun y=>[(6,vI ((Nb - y.1.length:Nat):Int))]) (fun y=>[(0,oC l y.2),(4096,.arr 2 [schT s] false),(4100,.arr 12 [dclT dcl0] false),(8236,.arr 12 [.agg [vS ⟨#[112,dgt P]⟩,vS nmSrc,vI ((.mk 1 0 0 0 0 []):Cnd).op,vI ((.mk 1 0 0 0 0 []):Cnd).col,vI ((.mk 1 0 0 0 0 []):Cnd).code,vI ((.mk 1 0 0 0 0 []):Cnd).lo,vI ((.mk 1 0 0 0 0 []):Cnd).hi,vCs ((.mk 1 0 0 0 0 []):Cnd).kids,vI g,vI f,vI sd,.asl 1 y.1.length]] false),(1,.arr 17 (y.1.map qstT) false)]) (fun y=>Nb - y.1.length) ([],bb) ⟨by simp,fun i h=>by simp at h,hbb⟩ (fun e ⟨_,hst⟩=>?_) fun T' y hy ih=>?_
   ·exact .oA [(0,some 0),(4096,some 4096),(4100,some 4100),(8236,some 8236),(1,none)] []
   obtain ⟨qs,a8⟩:=y
   obtain ⟨y1,y2,y3⟩:=hy
   dsimp only at y1 y2 y3
   simp only [tZ,↓un_u,simprocAttr,decide_eq_true_eq,decide_eq_false_iff_not]
   refine XE.brN (fun h4=>?_) (fun h4=>?_)
   ·have hlt:qs.length < Nb:=by omega
    have hI:=c_Itoa (Nb - qs.length) (by omega)
    obtain ⟨⟨q,a9⟩,⟨⟨hq,hqn⟩,ha9⟩,sQ⟩:=c_draw_Codes_Question s hd ⟨#[113,dgt (Nb - qs.length)]⟩ (nm_p _ (by omega)).2 l a8 hl y3
    dsimp only at hq hqn ha9 sQ
    have hwk:=i64_pred (i:=Nb - qs.length) (by omega) (by omega)
    refine XE.mp (fun _ _=>C1.im hI (by rfl) (by rfl)) ?_
    simp only [tZ,↓un_u,simprocAttr,app_dg]
    refine XE.sd (show 1 + 1≤9223372036854775807 by omega) ?_
    refine XE.mp (fun _ _=>C1.draw 0 l a8 _ sQ rfl rfl rfl) ?_
    simp only [tZ,↓un_u,simprocAttr,hwk]
    refine XE.sd (by omega) (XE.sd (by kernel_rfl) ?_)
    refine XE.next ih (qs ++ [q],a9) ⟨by simp;omega,fun i h=>?_,ha9⟩ (by simp;omega) fun e ⟨_,hst⟩=>?_
    ·dsimp only at h ⊢
     by_cases hi:i < qs.length
     ·rw [List.getElem_append_left hi]
      exact y2 i hi
     ·have he:i = qs.length:=by rw [List.length_append] at h;simp at h;omega
      subst he
      rw [List.getElem_append_right (Nat.le_refl _)]
      simpa using And.intro hq hqn
    ·have e1:Nb - (qs ++ [q]).length = Nb - qs.length - 1:=by rw [List.length_append];simp;omega
     simp only [e1]
     exact .oA [(0,some 0),(4096,some 4096),(4100,some 4100),(8236,some 8236),(1,some 1)] []
   ·refine XE.fin (⟨⟨#[112,dgt P]⟩,nmSrc,(.mk 1 0 0 0 0 []),⟨g,f,sd⟩,qs⟩,a8) ⟨dcl_ok hE (by omega) hca (by rw [smpE,if_neg];dsimp only;omega) (by omega) rfl (by omega) (fun i h=>by have:=y2 i h;rwa [show Nb = qs.length by omega] at this),y3⟩ fun e ⟨_,hst⟩=>?_
    exact .oA [(0,some 0)] [1]
  focus
   intro h2
   refine XE.mp (fun _ _=>C1.draw 0 l a5 _ (sRa) rfl rfl rfl) ?_
   refine sW ?_
   refine XE.loopF mixm [6,19,23] (fun y:List Qst×Nat=>y.1.length≤Na∧(∀ i (h:i < y.1.length),qstE s y.1[i] = 0∧y.1[i].name = ⟨#[113,dgt (Na - i)]⟩)∧y.2≤l.length) (fun y=>[(6,vI ((Na - y.1.length:Nat):Int))]) (fun y=>[(0,oC l y.2),(4096,.arr 2 [schT s] false),(4100,.arr 12 [dclT dcl0] false),(8236,.arr 12 [.agg [vS ⟨#[112,dgt P]⟩,vS nmSrc,vI ((.mk 1 0 0 0 0 []):Cnd).op,vI ((.mk 1 0 0 0 0 []):Cnd).col,vI ((.mk 1 0 0 0 0 []):Cnd).code,vI ((.mk 1 0 0 0 0 []):Cnd).lo,vI ((.mk 1 0 0 0 0 []):Cnd).hi,vCs ((.mk 1 0 0 0 0 []):Cnd).kids,vI 1,vI 1,vI sd,.asl 1 y.1.length]] false),(1,.arr 17 (y.1.map qstT) false)]) (fun y=>Na - y.1.length) ([],ba) ⟨by simp,fun i h=>by simp at h,hba⟩ (fun e ⟨_,hst⟩=>?_) fun T' y hy ih=>?_
   ·exact .oA [(0,some 0),(4096,some 4096),(4100,some 4100),(8236,some 8236),(1,none)] []
   obtain ⟨qs,a8⟩:=y
   obtain ⟨y1,y2,y3⟩:=hy
   dsimp only at y1 y2 y3
   simp only [tZ,↓un_u,simprocAttr,decide_eq_true_eq,decide_eq_false_iff_not]
   refine XE.brN (fun h4=>?_) (fun h4=>?_)
   ·have hlt:qs.length < Na:=by omega
    have hI:=c_Itoa (Na - qs.length) (by omega)
    obtain ⟨⟨q,a9⟩,⟨⟨hq,hqn⟩,ha9⟩,sQ⟩:=c_draw_Codes_Question s hd ⟨#[113,dgt (Na - qs.length)]⟩ (nm_p _ (by omega)).2 l a8 hl y3
    dsimp only at hq hqn ha9 sQ
    have hwk:=i64_pred (i:=Na - qs.length) (by omega) (by omega)
    refine XE.mp (fun _ _=>C1.im hI (by rfl) (by rfl)) ?_
    simp only [tZ,↓un_u,simprocAttr,app_dg]
    refine XE.sd (show 1 + 1≤9223372036854775807 by omega) ?_
    refine XE.mp (fun _ _=>C1.draw 0 l a8 _ sQ rfl rfl rfl) ?_
    simp only [tZ,↓un_u,simprocAttr,hwk]
    refine XE.sd (by omega) (XE.sd (by kernel_rfl) ?_)
    refine XE.next ih (qs ++ [q],a9) ⟨by simp;omega,fun i h=>?_,ha9⟩ (by simp;omega) fun e ⟨_,hst⟩=>?_
    ·dsimp only at h ⊢
     by_cases hi:i < qs.length
     ·rw [List.getElem_append_left hi]
      exact y2 i hi
     ·have he:i = qs.length:=by rw [List.length_append] at h;simp at h;omega
      subst he
      rw [List.getElem_append_right (Nat.le_refl _)]
      simpa using And.intro hq hqn
    ·have e1:Na - (qs ++ [q]).length = Na - qs.length - 1:=by rw [List.length_append];simp;omega
     simp only [e1]
     exact .oA [(0,some 0),(4096,some 4096),(4100,some 4100),(8236,some 8236),(1,some 1)] []
   ·refine XE.fin (⟨⟨#[112,dgt P]⟩,nmSrc,(.mk 1 0 0 0 0 []),⟨1,1,sd⟩,qs⟩,a8) ⟨dcl_ok hE (by omega) hca (by rw [smpE,if_neg];dsimp only;omega) (by omega) rfl (by omega) (fun i h=>by have:=y2 i h;rwa [show Na = qs.length by omega] at this),y3⟩ fun e ⟨_,hst⟩=>?_
    exact .oA [(0,some 0)] [1]
 ·intro h1
  refine XE.mp (fun _ _=>C1.draw 0 l a4 _ sO2 rfl rfl rfl) ?_
  refine sW ?_
  apply XE.brB
  focus
   intro h2
   refine XE.mp (fun _ _=>C1.draw 0 l a5 _ sF rfl rfl rfl) ?_
   refine sW ?_
   refine XE.mp (fun _ _=>C1.draw 0 l a6 _ sG rfl rfl rfl) ?_
   refine sW ?_
   refine XE.mp (fun _ _=>C1.draw 0 l a7 _ (sRb) rfl rfl rfl) ?_
   refine sW ?_
   refine XE.loopF mixm [6,19,23] (fun y:List Qst×Nat=>y.1.length≤Nb∧(∀ i (h:i < y.1.length),qstE s y.1[i] = 0∧y.1[i].name = ⟨#[113,dgt (Nb - i)]⟩)∧y.2≤l.length) (fun y=>[(6,vI ((Nb - y.1.length:Nat):Int))]) (fun y=>[(0,oC l y.2),(4096,.arr 2 [schT s] false),(4100,.arr 12 [dclT dcl0] false),(8236,.arr 12 [.agg [vS ⟨#[112,dgt P]⟩,vS nmSrc,vI (c0:Cnd).op,vI (c0:Cnd).col,vI (c0:Cnd).code,vI (c0:Cnd).lo,vI (c0:Cnd).hi,vCs (c0:Cnd).kids,vI g,vI f,vI sd,.asl 1 y.1.length]] false),(1,.arr 17 (y.1.map qstT) false)]) (fun y=>Nb - y.1.length) ([],bb) ⟨by simp,fun i h=>by simp at h,hbb⟩ (fun e ⟨_,hst⟩=>?_) fun T' y hy ih=>?_
   ·exact .oA [(0,some 0),(4096,some 4096),(4100,some 4100),(8236,some 8236),(1,none)] []
   obtain ⟨qs,a8⟩:=y
   obtain ⟨y1,y2,y3⟩:=hy
   dsimp only at y1 y2 y3
   simp only [tZ,↓un_u,simprocAttr,decide_eq_true_eq,decide_eq_false_iff_not]
   refine XE.brN (fun h4=>?_) (fun h4=>?_)
   ·have hlt:qs.length < Nb:=by omega
    have hI:=c_Itoa (Nb - qs.length) (by omega)
    obtain ⟨⟨q,a9⟩,⟨⟨hq,hqn⟩,ha9⟩,sQ⟩:=c_draw_Codes_Question s hd ⟨#[113,dgt (Nb - qs.length)]⟩ (nm_p _ (by omega)).2 l a8 hl y3
    dsimp only at hq hqn ha9 sQ
    have hwk:=i64_pred (i:=Nb - qs.length) (by omega) (by omega)
    refine XE.mp (fun _ _=>C1.im hI (by rfl) (by rfl)) ?_
    simp only [tZ,↓un_u,simprocAttr,app_dg]
    refine XE.sd (show 1 + 1≤9223372036854775807 by omega) ?_
    refine XE.mp (fun _ _=>C1.draw 0 l a8 _ sQ rfl rfl rfl) ?_
    simp only [tZ,↓un_u,simprocAttr,hwk]
    refine XE.sd (by omega) (XE.sd (by kernel_rfl) ?_)
    refine XE.next ih (qs ++ [q],a9) ⟨by simp;omega,fun i h=>?_,ha9⟩ (by simp;omega) fun e ⟨_,hst⟩=>?_
    ·dsimp only at h ⊢
     by_cases hi:i < qs.length
     ·rw [List.getElem_append_left hi]
      exact y2 i hi
     ·have he:i = qs.length:=by rw [List.length_append] at h;simp at h;omega
      subst he
      rw [List.getElem_append_right (Nat.le_refl _)]
      simpa using And.intro hq hqn
    ·have e1:Nb - (qs ++ [q]).length = Nb - qs.length - 1:=by rw [List.length_append];simp;omega
     simp only [e1]
     exact .oA [(0,some 0),(4096,some 4096),(4100,some 4100),(8236,some 8236),(1,some 1)] []
   ·refine XE.fin (⟨⟨#[112,dgt P]⟩,nmSrc,c0,⟨g,f,sd⟩,qs⟩,a8) ⟨dcl_ok hE (by omega) hcf0 (by rw [smpE,if_neg];dsimp only;omega) (by omega) rfl (by omega) (fun i h=>by have:=y2 i h;rwa [show Nb = qs.length by omega] at this),y3⟩ fun e ⟨_,hst⟩=>?_
    exact .oA [(0,some 0)] [1]
  focus
   intro h2
   refine XE.mp (fun _ _=>C1.draw 0 l a5 _ (sRa) rfl rfl rfl) ?_
   refine sW ?_
   refine XE.loopF mixm [6,19,23] (fun y:List Qst×Nat=>y.1.length≤Na∧(∀ i (h:i < y.1.length),qstE s y.1[i] = 0∧y.1[i].name = ⟨#[113,dgt (Na - i)]⟩)∧y.2≤l.length) (fun y=>[(6,vI ((Na - y.1.length:Nat):Int))]) (fun y=>[(0,oC l y.2),(4096,.arr 2 [schT s] false),(4100,.arr 12 [dclT dcl0] false),(8236,.arr 12 [.agg [vS ⟨#[112,dgt P]⟩,vS nmSrc,vI (c0:Cnd).op,vI (c0:Cnd).col,vI (c0:Cnd).code,vI (c0:Cnd).lo,vI (c0:Cnd).hi,vCs (c0:Cnd).kids,vI 1,vI 1,vI sd,.asl 1 y.1.length]] false),(1,.arr 17 (y.1.map qstT) false)]) (fun y=>Na - y.1.length) ([],ba) ⟨by simp,fun i h=>by simp at h,hba⟩ (fun e ⟨_,hst⟩=>?_) fun T' y hy ih=>?_
   ·exact .oA [(0,some 0),(4096,some 4096),(4100,some 4100),(8236,some 8236),(1,none)] []
   obtain ⟨qs,a8⟩:=y
   obtain ⟨y1,y2,y3⟩:=hy
   dsimp only at y1 y2 y3
   simp only [tZ,↓un_u,simprocAttr,decide_eq_true_eq,decide_eq_false_iff_not]
   refine XE.brN (fun h4=>?_) (fun h4=>?_)
   ·have hlt:qs.length < Na:=by omega
    have hI:=c_Itoa (Na - qs.length) (by omega)
    obtain ⟨⟨q,a9⟩,⟨⟨hq,hqn⟩,ha9⟩,sQ⟩:=c_draw_Codes_Question s hd ⟨#[113,dgt (Na - qs.length)]⟩ (nm_p _ (by omega)).2 l a8 hl y3
    dsimp only at hq hqn ha9 sQ
    have hwk:=i64_pred (i:=Na - qs.length) (by omega) (by omega)
    refine XE.mp (fun _ _=>C1.im hI (by rfl) (by rfl)) ?_
    simp only [tZ,↓un_u,simprocAttr,app_dg]
    refine XE.sd (show 1 + 1≤9223372036854775807 by omega) ?_
    refine XE.mp (fun _ _=>C1.draw 0 l a8 _ sQ rfl rfl rfl) ?_
    simp only [tZ,↓un_u,simprocAttr,hwk]
    refine XE.sd (by omega) (XE.sd (by kernel_rfl) ?_)
    refine XE.next ih (qs ++ [q],a9) ⟨by simp;omega,fun i h=>?_,ha9⟩ (by simp;omega) fun e ⟨_,hst⟩=>?_
    ·dsimp only at h ⊢
     by_cases hi:i < qs.length
     ·rw [List.getElem_append_left hi]
      exact y2 i hi
     ·have he:i = qs.length:=by rw [List.length_append] at h;simp at h;omega
      subst he
      rw [List.getElem_append_right (Nat.le_refl _)]
      simpa using And.intro hq hqn
    ·have e1:Na - (qs ++ [q]).length = Na - qs.length - 1:=by rw [List.length_append];simp;omega
     simp only [e1]
     exact .oA [(0,some 0),(4096,some 4096),(4100,some 4100),(8236,some 8236),(1,some 1)] []
   ·refine XE.fin (⟨⟨#[112,dgt P]⟩,nmSrc,c0,⟨1,1,sd⟩,qs⟩,a8) ⟨dcl_ok hE (by omega) hcf0 (by rw [smpE,if_neg];dsimp only;omega) (by omega) rfl (by omega) (fun i h=>by have:=y2 i h;rwa [show Na = qs.length by omega] at this),y3⟩ fun e ⟨_,hst⟩=>?_
    exact .oA [(0,some 0)] [1]
theorem x_Secret (l:List UInt8) (a:Nat) (hl:l.length≤400) (ha:a≤l.length) :
 ∃ (k:Int) (b:Nat),0≤k∧k < 1152921504606846976∧b≤l.length∧Spc Tryz.prog F_draw_Codes_Secret [.ptr 0 1 0 0] [(0,oC l a)] (vI k) [(0,oC l b)]:=by
 obtain ⟨u,a1,u1,u2,ha1,s1⟩:=x_Next l a 60000 hl ha (by omega)
 obtain ⟨v,a2,v1,v2,ha2,s2⟩:=x_Next l a1 60000 hl ha1 (by omega)
 obtain ⟨w,a3,w1,w2,ha3,s3⟩:=x_Next l a2 7 hl ha2 (by omega)
 have h1:0≤u * v:=Int.mul_nonneg u1 v1
 have h2:u * v≤60000 * 60000:=Int.mul_le_mul (by omega) (by omega) v1 (by omega)
 refine ⟨u * v + w,a3,by omega,by omega,ha3,?_⟩
 have hw1:IntKind.i64.wrap (u * v) = u * v:=IntWalk.i64_in _ (by omega)
 have hw2:IntKind.i64.wrap (u * v + w) = u * v + w:=IntWalk.i64_in _ (by omega)
 refine spec_of_ir fn_draw_Codes_Secret mixm (by simp) fun e _ hst=>W_start ?_
 unfold ir_draw_Codes_Secret
 refine sW ?_
 refine C1.draw 0 l a _ s1 rfl rfl rfl ?_
 refine sW ?_
 refine C1.draw 0 l a1 _ s2 rfl rfl rfl ?_
 simp only [tZ,↓un_u,simprocAttr,hw1]
 refine C1.draw 0 l a2 _ s3 rfl rfl rfl ?_
 simp only [tZ,↓un_u,simprocAttr,hw1,hw2]
 exact .oA [(0,some 0)] []
end Go.Proofs
set_option linter.unusedSimpArgs false
set_option linter.unusedVariables false
namespace Go.Proofs
open Go Go.TL
set_option maxRecDepth 4000
set_option maxHeartbeats 4000000
structure DrE (x:Src) (d:Edt):Prop where
 kind:1≤d.kind∧d.kind≤4
 len:d.row.length≤8
theorem c_draw_Codes_Edit (x:Src) (hD:DrS x.sch) (hr:∀ r∈x.rows,0 < r.length) (hn:x.rows.length≤1000) (l:List UInt8) (a:Nat) (hl:l.length≤400) (ha:a≤l.length) :
 ∃ r:Edt×Nat,(DrE x r.1∧r.2≤l.length)∧Spc Tryz.prog F_draw_Codes_Edit [.ptr 0 1 0 0,srcT x] [(0,oC l a)] (edtT r.1) [(0,oC l r.2)]:=by
 obtain ⟨k,a1,k1,k2,ha1,sK⟩:=x_Range l a 1 4 hl ha (by omega) (by omega)
 obtain ⟨w,c,i1,i2,hc,sI⟩:=x_Range l a1 1 60 hl ha1 (by omega) (by omega)
 have hnc:=(schE_ok hD.ok).nc
 refine spec_of_irX0 fn_draw_Codes_Edit mixm (fun r:Edt×Nat=>edtT r.1) (fun r=>[(0,oC l r.2)]) (by simp) ?_
 unfold ir_draw_Codes_Edit
 refine sW ?_
 refine XE.mp (fun _ _=>C1.draw 0 l a _ sK rfl rfl rfl) ?_
 refine sW ?_
 refine XE.mp (fun _ _=>C1.draw 0 l a1 _ sI rfl rfl rfl) ?_
 rcases Nat.eq_zero_or_pos x.rows.length with h0 | h0
 focus
  have e0:decide ((x.rows.length:Int) > 0) = false:=decide_eq_false (by omega)
  simp only [tZ,↓un_u,simprocAttr,e0]
  refine XE.mp (fun _ _=>C2.no (by simp)) ?_
  refine sW ?_
  obtain ⟨v,hv⟩:∃ v,v = w:=⟨_,rfl⟩
  obtain ⟨b,hb⟩:∃ b,b = c:=⟨_,rfl⟩
  rw [← hv,← hb]
  have hb:b≤l.length:=by omega
 rotate_left
 focus
  have e0:decide ((x.rows.length:Int) > 0) = true:=decide_eq_true (by omega)
  obtain ⟨o,a3,ha3,sO⟩:=x_One l c 2 hl hc (by omega)
  obtain ⟨j,a4,j1,j2,ha4,sJ⟩:=x_Next l a3 x.rows.length hl ha3 (by omega)
  obtain ⟨m,rfl⟩:=Int.eq_ofNat_of_zero_le j1
  have hm:m < x.rows.length:=by omega
  have hgm:=getD_hd (hr _ (List.getElem_mem hm))
  have hrm:=hr _ (List.getElem_mem hm)
  simp only [tZ,↓un_u,simprocAttr,e0]
  refine XE.mp (fun _ _=>C2.one (by trivial)) ?_
  refine XE.mp (fun _ _=>C1.draw 0 l c _ sO rfl rfl rfl) ?_
  refine sW ?_
  refine XE.brB (fun h3=>?_) (fun h3=>?_)
  focus
   refine XE.mp (fun _ _=>C1.draw 0 l a3 _ sJ rfl rfl rfl) ?_
   simp only [tZ,↓un_u,simprocAttr,Int.toNat_natCast,getD_mapT hm,hgm]
   refine XE.sd (by omega) (XE.sd (by omega) (XE.sd (by kernel_rfl) ?_))
   generalize hd x.rows[m] = v
   obtain ⟨b,hb⟩:∃ b,b = a4:=⟨_,rfl⟩
   rw [← hb]
   have hb:b≤l.length:=by omega
  rotate_left
  focus
   obtain ⟨v,hv⟩:∃ v,v = w:=⟨_,rfl⟩
   obtain ⟨b,hb⟩:∃ b,b = a3:=⟨_,rfl⟩
   rw [← hv,← hb]
   have hb:b≤l.length:=by omega
 all_goals (
  refine XE.brB (fun h5=>?_) (fun h5=>?_)
  ·obtain ⟨⟨row,a2⟩,⟨hr2,ha2⟩,sR⟩:=c_draw_Codes_Row x.sch hD l b hl hb
   dsimp only at hr2 ha2 sR
   have hrl:=(rowE_ok hr2).2.1
   obtain ⟨r0,rs,rfl⟩:∃ r0 rs,row = r0 :: rs:=by
    cases row with
    | nil=>have:=row_pos hr2;simp at this
    | cons r0 rs=>exact ⟨r0,rs,rfl⟩
   refine XE.mp (fun _ _=>C1.drawF 0 24588 l b a2 sR rfl rfl (ints_v _) rfl) ?_
   simp only [tZ,↓un_u,simprocAttr,beq_iff_eq,beq_eq_false_iff_ne]
   refine XE.brN (fun h6=>?_) (fun h6=>?_)
   ·refine XE.sd (by omega) (XE.sd (by omega) ?_)
    refine XE.fin (⟨k,v :: rs,0⟩,a2) ⟨⟨⟨k1,k2⟩,by simp at hrl ⊢;omega⟩,ha2⟩ fun e ⟨_,hst⟩=>?_
    exact .oA [(0,some 0)] [24588]
   ·refine XE.fin (⟨k,r0 :: rs,0⟩,a2) ⟨⟨⟨k1,k2⟩,by dsimp only;omega⟩,ha2⟩ fun e ⟨_,hst⟩=>?_
    exact .oA [(0,some 0)] [24588]
  ·refine XE.fin (⟨k,[],v⟩,b) ⟨⟨⟨k1,k2⟩,by simp⟩,hb⟩ fun e ⟨_,hst⟩=>?_
   exact .oA [(0,some 0)] []
  )
theorem c_draw_Codes_Edits (x:Src) (hx:DrX x) (most:Int) (l:List UInt8) (a:Nat) (hl:l.length≤400) (ha:a≤l.length) (hm:0≤most∧most≤100) :
 ∃ r:List Edt×Nat,((atS x r.1).2 = 0∧r.1.length≤most∧(∀ d∈r.1,1≤d.kind∧d.kind≤4∧d.row.length≤8)∧r.2≤l.length)∧Spc Tryz.prog F_draw_Codes_Edits [.ptr 0 1 0 0,srcT x,vI most] [(0,oC l a)] (.sl 3 (r.1.map edtT)) [(0,oC l r.2)]:=by
 obtain ⟨v,a1,v1,v2,ha1,sN⟩:=x_Next l a (most + 1) hl ha (by omega)
 obtain ⟨N,rfl⟩:=Int.eq_ofNat_of_zero_le v1
 have hw:IntKind.i64.wrap (most + 1) = most + 1:=IntWalk.i64_in _ (by omega)
 refine spec_of_irX0 fn_draw_Codes_Edits mixm (fun r:List Edt×Nat=>.sl 3 (r.1.map edtT)) (fun r=>[(0,oC l r.2)]) (by simp) ?_
 unfold ir_draw_Codes_Edits
 simp only [tZ,↓un_u,simprocAttr,hw]
 refine XE.mp (fun _ _=>C1.draw 0 l a _ sN rfl rfl rfl) ?_
 refine sW ?_
 refine XE.loopF mixm [7,8] (fun y:Nat×List Edt×Nat=>y.2.1.length + y.1≤N∧(atS x y.2.1).2 = 0∧(∀ d∈y.2.1,1≤d.kind∧d.kind≤4∧d.row.length≤8)∧y.2.2≤l.length) (fun y=>[(7,.asl 1 y.2.1.length),(8,vI y.1)]) (fun y=>[(0,oC l y.2.2),(4096,.arr 5 [srcT (atS x y.2.1).1] false),(1,.arr 3 (y.2.1.map edtT) false)]) (fun y=>y.1) (N,[],a1) ⟨by simp,rfl,by simp,ha1⟩ (fun e ⟨_,hst⟩=>?_) fun T' y hy ih=>?_
 ·show Le _ _ ⟨_,[(0,oC l a1),(4096,.arr 5 [srcT x] false),(1,.arr 3 [] false)]⟩
  exact .oA [(0,some 0),(4096,some 4096),(1,none)] []
 obtain ⟨k,es,a2⟩:=y
 obtain ⟨y1,y2,y3,y4⟩:=hy
 dsimp only at y1 y2 y3 y4
 have hso:=atS_ok hx.ok (by rw [hx.gone,hx.ver];simp) y2
 have hsn:=fun d=>atS_snoc es x d y2
 simp only [tZ,↓un_u,simprocAttr,decide_eq_true_eq,decide_eq_false_iff_not]
 generalize hz2:(atS x es).1 = z at hso hsn ⊢
 refine XE.brN (fun h4=>?_) (fun h4=>?_)
 ·have hok:=hso.1
  have hsm:SrcSm z:=⟨(schE_ok hok.sch).sm,fun r hr=>by
   have:=(rowE_ok (hok.rows r hr)).2.1
   have:=(schE_ok hok.sch).nc
   omega⟩
  have hnr:=hok.nr
  obtain ⟨⟨d,a3⟩,⟨hd1,ha3⟩,sE⟩:=c_draw_Codes_Edit z (by rw [hso.2.2];exact hx.sch) hok.rowp (by omega) l a2 hl y4
  dsimp only at hd1 ha3 sE
  have hdl:=hd1.len
  have hsn:=hsn d
  have hwk:=i64_pred (i:=k) (by omega) (by omega)
  refine XE.mp (fun _ _=>C1.draw 0 l a2 _ sE rfl rfl rfl) ?_
  refine sW ?_
  refine XE.mp (fun _ _=>C1.im (c_ref04_Apply z d hsm (by omega)) (by rfl) (by rfl)) ?_
  simp only [tZ,↓un_u,simprocAttr,hwk,beq_iff_eq,beq_eq_false_iff_ne]
  refine XE.brN (fun h5=>?_) (fun h5=>?_)
  ·rw [if_neg (by rw [h5];simp)] at hsn
   refine XE.sd (by omega) ?_
   refine XE.next ih (k - 1,es ++ [d],a3) ⟨by simp;omega,by dsimp only;rw [hsn],fun d2 hd2=>?_,ha3⟩ (by dsimp only;omega) fun e ⟨_,hst⟩=>?_
   ·rcases List.mem_append.1 hd2 with h | h
    ·exact y3 d2 h
    ·rw [List.mem_singleton.1 h];exact ⟨hd1.kind.1,hd1.kind.2,hdl⟩
   ·dsimp only
    simp only [hsn]
    exact .oA [(0,some 0),(4096,some 4096),(1,some 1)] []
  ·refine XE.next ih (k - 1,es,a3) ⟨by dsimp only;omega,y2,y3,ha3⟩ (by dsimp only;omega) fun e ⟨_,hst⟩=>?_
   dsimp only
   rw [hz2]
   exact .oA [(0,some 0),(4096,some 4096),(1,some 1)] []
 ·refine XE.fin (es,a2) ⟨y2,by dsimp only;omega,y3,y4⟩ fun e ⟨_,hst⟩=>?_
  exact .oA [(0,some 0)] [1]
end Go.Proofs
set_option linter.unusedSimpArgs false
set_option linter.unusedVariables false
namespace Go.Proofs
open Go Go.TL
set_option maxRecDepth 4000
set_option maxHeartbeats 8000000
open So
theorem SrcOk.smx {s:Src} (h:SrcOk s):SrcSm s:=⟨(schE_ok h.sch).sm,fun r hr=>by
 have h1:=(rowE_ok (h.rows r hr)).2.1
 have h2:=(schE_ok h.sch).nc
 omega⟩
structure TwoOk (a b:Ext):Prop where
 pa:a.proj = b.proj
 pk:a.picks = b.picks
 oa:ExtOk a
 ob:ExtOk b
 sa:ExtSm a
 sb:ExtSm b
 na:a.rows.length≤200
 nb:b.rows.length≤200
theorem TwoOk.symm {a b:Ext} (h:TwoOk a b):TwoOk b a:=⟨h.pa.symm,h.pk.symm,h.ob,h.oa,h.sb,h.sa,h.nb,h.na⟩
theorem rows_ok (s:Src) (l:List Pk) (k:Int):∀ (m A:List (List Int)),AscR A→(∀ r∈A,r.length = l.length + 1)→AscR (m.foldl (buildF s l k) A)∧(∀ r∈m.foldl (buildF s l k) A,r.length = l.length + 1)∧(m.foldl (buildF s l k) A).length≤A.length + m.length
 | [],A,h1,h2=>⟨h1,h2,by simp⟩
 | r :: m,A,h1,h2=>by
   obtain ⟨k1,k2,k3⟩:=rows_ok s l k m (buildF s l k A r) (putR_asc h1) (fun x hx=>by
    rcases (putR_mem h1).1 hx with e | ⟨hx,_⟩
    ·rw [e];simp [rowX]
    ·exact h2 x hx)
   have h3:=putR_len A (rowX s l k r)
   refine ⟨k1,k2,?_⟩
   have h4:(buildF s l k A r).length≤A.length + 1:=h3
   rw [List.foldl_cons,List.length_cons]
   omega
theorem ownR_len {s:Src} (h:SrcOk s) (d:Dcl):(ownR s d).length≤200:=by
 have:=h.nr
 unfold ownR
 split
 ·simp
 ·exact Nat.le_trans (List.length_filter_le _ _) h.nr
theorem ext_ok {s:Src} (h:SrcOk s) (d:Dcl) (l:List Pk) (k:Int) (hl:l.length≤800):ExtOk ⟨d.proj,s.ver,l,buildR s d l k⟩∧ExtSm ⟨d.proj,s.ver,l,buildR s d l k⟩∧(buildR s d l k).length≤200:=by
 obtain ⟨h1,h2,h3⟩:=rows_ok s l k (ownR s d) [] List.Pairwise.nil (by simp)
 have h4:=ownR_len h d
 have h5:(buildR s d l k).length≤200:=by
  unfold buildR
  simp only [List.length_nil] at h3
  omega
 refine ⟨⟨ordB_ok.2 ⟨fun r hr=>by rw [h2 r hr];omega,h1⟩,h2⟩,⟨⟨by dsimp only;omega,fun r hr=>by rw [h2 r hr];omega⟩,by dsimp only;omega⟩,h5⟩
theorem ext0_ok:ExtOk ext0∧ExtSm ext0:=⟨⟨by rfl,by simp⟩,⟨⟨by decide,by simp⟩,by decide⟩⟩
theorem build_ok {s s2:Src} (h1:SrcOk s) (h2:SrcOk s2) (he:s2.sch = s.sch) (d:Dcl) (l:List Pk) (k:Int) (hl:l.length≤800):TwoOk (buildX s d l k) (buildX s2 d l k):=by
 have hb:buildE s2 d l k = buildE s d l k:=by
  unfold buildE
  rw [srcB_ok.2 h1,srcB_ok.2 h2,he]
 unfold buildX
 rw [hb]
 split
 ·exact ⟨rfl,rfl,ext0_ok.1,ext0_ok.1,ext0_ok.2,ext0_ok.2,by decide,by decide⟩
 ·obtain ⟨a1,a2,a3⟩:=ext_ok h1 d l k hl
  obtain ⟨b1,b2,b3⟩:=ext_ok h2 d l k hl
  exact ⟨rfl,rfl,a1,b1,a2,b2,a3,b3⟩
theorem x_two (l:List UInt8):∃ (s:Src) (d:Dcl) (pl:List Pk) (es:List Edt) (k:Int),(DrX s∧(atS s es).2 = 0∧es.length≤6∧(∀ d∈es,1≤d.kind∧d.kind≤4∧d.row.length≤8)∧0≤k∧k < 1152921504606846976∧pl.length≤800)∧
 Spc Tryz.prog F_law14_two [vL l] [] (.tup [extT (buildX s d pl k),extT (buildX (atS s es).1 d pl k),.sl 3 (es.map edtT),vI k]) []:=by
 have hl4:(l.take 400).length≤400:=by rw [List.length_take];omega
 obtain ⟨⟨s,a1⟩,⟨hX,ha1⟩,sS⟩:=c_draw_Codes_Source 8 (l.take 400) 0 hl4 (by omega) (by omega)
 dsimp only at hX ha1 sS
 obtain ⟨⟨d,a2⟩,⟨hd0,ha2⟩,sD⟩:=c_draw_Codes_Declaration s.sch hX.sch (l.take 400) a1 hl4 ha1
 dsimp only at hd0 ha2 sD
 obtain ⟨k,a3,k1,k2,ha3,sK⟩:=x_Secret (l.take 400) a2 hl4 ha2
 obtain ⟨⟨es,a4⟩,⟨he0,hel,hek,ha4⟩,sE⟩:=c_draw_Codes_Edits s hX 6 (l.take 400) a3 hl4 ha3 (by omega)
 dsimp only at he0 hel hek ha4 sE
 have hok:=hX.ok
 have hsm:=hok.smx
 have hsc:=schE_ok hok.sch
 have hnl:0 < s.sch.lists.length:=by
  obtain ⟨a,b,e,_⟩:=hX.sch.ls
  rw [e];simp
 obtain ⟨o1,o2,o3⟩:=atS_ok hok (by rw [hX.gone,hX.ver];simp) he0
 have hsm2:=o1.smx
 refine ⟨s,d,planL s.sch d,es,k,⟨hX,he0,by omega,hek,k1,k2,planL_len _ _⟩,?_⟩
 have hPl:=planL_len s.sch d
 have sP:=c_ref10_Plan s.sch hsm.1 (by omega) d
 have sA:=c_ref04_At s es es.length hsm (fun d hd=>by have:=hek d hd;omega) (by omega)
 rw [show atI s es es.length = atS s es by rw [atI,if_neg (by omega),Int.toNat_natCast,List.take_length]] at sA
 have sB1:=c_ref13_Build s d (planL s.sch d) k hsm (by omega) (by omega)
 have sB2:=c_ref13_Build (atS s es).1 d (planL s.sch d) k hsm2 (by rw [o3];omega) (by omega)
 refine spec_of_ir fn_law14_two mixm (by simp) fun e _ hst=>W_start ?_
 unfold ir_law14_two
 refine sW ?_
 refine C1.newdraw 8196 (c_draw_New l) rfl rfl ?_
 generalize l.take 400 = m at hl4 sS sD sK sE ha1 ha2 ha3 ha4 ⊢
 refine sW ?_
 refine C1.draw 8196 m 0 _ sS rfl rfl rfl ?_
 refine sW ?_
 refine C1.draw 8196 m a1 _ sD rfl rfl rfl ?_
 refine sW ?_
 refine C1.im sP (by rfl) (by rfl) ?_
 refine sW ?_
 refine C1.draw 8196 m a2 _ sK rfl rfl rfl ?_
 refine sW ?_
 refine C1.draw 8196 m a3 _ sE rfl rfl rfl ?_
 refine sW ?_
 refine C1.im sA (by rfl) (by rfl) ?_
 refine sW ?_
 refine C1.im sB1 (by rfl) (by rfl) ?_
 refine sW ?_
 refine C1.im sB2 (by rfl) (by rfl) ?_
 refine sW ?_
 refine ⟨by kernel_rfl,?_⟩
 exact .oA [] []
end Go.Proofs
set_option linter.unusedSimpArgs false
set_option linter.unusedVariables false
namespace Go.Proofs
open Go Go.TL
set_option maxRecDepth 4000
set_option maxHeartbeats 8000000
open So
theorem eqB_self (x:ByteArray):eqB x x = true:=by
 show (x.toList == x.toList) = true
 simp
theorem two_step {a b:Ext} (h:TwoOk a b):diffE a b = 0∧appE a (diffC a b) = 0∧appX a (diffC a b) = b∧ChgSm (diffC a b):=by
 obtain ⟨h1,h2,h3⟩:=diff_apply h.oa.ord h.ob (by rw [h.pa];exact eqB_self _) (samePk_iff.2 h.pk) (by rw [h.pk])
 have e:(⟨a.proj,b.ver,a.picks,b.rows⟩:Ext) = b:=by rw [h.pa,h.pk]
 rw [e] at h3
 refine ⟨h1,h2,h3,?_⟩
 have hc:diffC a b = ⟨b.ver,diffG a.rows b.rows,diffR a.rows b.rows⟩:=by rw [diffC,if_neg (by rw [h1];simp)]
 rw [hc]
 have g1:=diffG_len b.rows a.rows
 have g2:=diffR_len a.rows b.rows
 have n1:=h.na
 have n2:=h.nb
 exact ⟨⟨by dsimp only;omega,fun r hr=>h.sb.rows.2 r (List.mem_filter.1 hr).1⟩,by dsimp only;omega⟩
def sameX (a b:Ext):Bool:=eqB a.proj b.proj && (a.ver == b.ver) && samePk a.picks b.picks && eqRows a.rows b.rows
theorem sameX_self (a:Ext):sameX a a = true:=by
 unfold sameX
 rw [eqB_self,samePk_iff.2 rfl,eqRows_iff.2 rfl]
 simp
theorem c_same (a b:Ext) (ha:ExtSm a):Spc Tryz.prog F_ref13_Same [extT a,extT b] [] (vB (sameX a b)) []:=c_ref13_Same a b (by have:=ha.picks;omega) (by have:=ha.rows.1;omega) (fun r hr=>by have:=ha.rows.2 r hr;omega)
theorem two_of {s:Src} {es:List Edt} (hX:DrX s) (h:(atS s es).2 = 0) (d:Dcl) (pl:List Pk) (k:Int) (hl:pl.length≤800):TwoOk (buildX s d pl k) (buildX (atS s es).1 d pl k):=by
 obtain ⟨o1,o2,o3⟩:=atS_ok hX.ok (by rw [hX.gone,hX.ver];simp) h
 exact build_ok hX.ok o1 o3 d pl k hl
end Go.Proofs
set_option linter.unusedSimpArgs false
set_option linter.unusedVariables false
namespace Go.Proofs
open Go Go.TL
set_option maxRecDepth 4000
set_option maxHeartbeats 8000000
open So
theorem with_ver {a:Ext} (n:Int) (h:ExtOk a) (hs:ExtSm a) (hn:a.rows.length≤200):TwoOk a ⟨a.proj,n,a.picks,a.rows⟩:=⟨rfl,rfl,h,⟨h.ord,h.len⟩,hs,⟨hs.rows,hs.picks⟩,hn,hn⟩
theorem c_law14_RefreshNothing (l:List UInt8) (n:Int) (hn:0≤n∧n≤255) (dep:List Int) (hd1:dep.length < 4611686018427387904):Spc Tryz.prog F_law14_RefreshNothing [vL l,.v (.int .u8 n),vIs dep] [] (vB true) []:=by
 obtain ⟨s,d,pl,es,k,⟨hX,he,_,_,_,_,hpl⟩,sT⟩:=x_two l
 have h0:=two_of hX he d pl k hpl
 generalize buildX s d pl k = a at sT h0
 generalize buildX (atS s es).1 d pl k = b at sT h0
 have h:=with_ver n h0.oa h0.sa h0.na
 obtain ⟨p1,p2,p3,p4⟩:=two_step h
 have hw:IntKind.i64.wrap n = n:=IntWalk.i64_in _ (by omega)
 have hd2:=diff_self (ordB_ok.1 h0.oa.ord).2
 have hc:diffC a ⟨a.proj,n,a.picks,a.rows⟩ = ⟨n,[],[]⟩:=by rw [diffC,if_neg (by rw [p1];simp),hd2.1,hd2.2]
 have zD:=c_refresh_Diff a ⟨a.proj,n,a.picks,a.rows⟩ h.sa h.sb
 have sA:=c_refresh_Apply a _ h.sa p4
 rw [p2,p3,hc] at sA
 rw [p1,hc] at zD
 have sS:=c_same ⟨a.proj,n,a.picks,a.rows⟩ ⟨a.proj,n,a.picks,a.rows⟩ h.sb
 rw [sameX_self] at sS
 have sK:=c_refresh_Keys ⟨n,[],[]⟩ (by simp)
 have hk:setI (keysL ⟨n,[],[]⟩) = []:=rfl
 have sE:=c_refresh_Stale ⟨n,[],[]⟩ dep (by simp) hd1
 have hst0:staleC ⟨n,[],[]⟩ dep = false:=by
  unfold staleC
  rw [hk]
  simp
 rw [hk] at sK
 rw [hst0] at sE
 refine spec_of_ir fn_law14_RefreshNothing mixm (by simp) fun e _ hst=>W_start ?_
 unfold ir_law14_RefreshNothing
 refine sW ?_
 refine sD ?_
 refine ⟨fun h2=>?_,fun h2=>?_⟩
 ·refine C1.im c_law14_awake (by rfl) (by rfl) ?_
  refine sW ?_
  exact .oA [] []
 refine C1.im sT (by rfl) (by rfl) ?_
 simp only [tZ,↓un_u,simprocAttr,hw]
 refine C1.im zD (by rfl) (by rfl) ?_
 refine sW ?_
 refine C1.im sA (by rfl) (by rfl) ?_
 simp only [tZ,↓un_u,simprocAttr,hw]
 refine C2.im (fun _=>sK) (fun _=>rfl) (by rfl) ?_
 refine sW ?_
 refine C2.im (fun _=>sE) (fun _=>rfl) (by rfl) ?_
 refine sW ?_
 refine C2.im (fun _=>sS) (fun _=>rfl) (by rfl) ?_
 refine sW ?_
 refine C2.im (fun _=>c_law14_awake) (fun _=>rfl) (by rfl) ?_
 refine sW ?_
 exact .oA [] []
end Go.Proofs
