/- A part of the proof: trees of Go values, short forms, contracts. -/
import Derived.WalkKit
import Derived.Still
import Derived.MapKept
import GoSem.Builtin.Cap
import Derived.Laws.Externs
import GoSem.Extern.SlicesOverlaps
import Derived.Carry
import Derived.ProofKit
import Derived.OpenShut
import Derived.HandedShaped
import Derived.Lay
import Derived.LaidLaws
import Derived.MakeChecks
import Derived.SevenTiedAt
import Derived.Test.YtjckmmphmhafjaaGreatDoorChecked
import Derived.Test.YtjckmmphmhafjaaGreatDoorK23
set_option linter.unusedSimpArgs false
set_option linter.unusedVariables false
namespace Go.Proofs
open Go Go.TL
set_option maxRecDepth 4000
set_option maxHeartbeats 8000000
theorem nm_p:∀ n:Nat,n < 10→nameB ⟨#[112,dgt n]⟩ = true∧nameB ⟨#[113,dgt n]⟩ = true:=by
 have:∀ n:Fin 10,nameB ⟨#[112,dgt n.1]⟩ = true∧nameB ⟨#[113,dgt n.1]⟩ = true:=by decide +kernel
 exact fun n h=>this ⟨n,h⟩
theorem nm_qne:∀ i j:Nat,i < 10→j < 10→i≠j→eqB ⟨#[113,dgt i]⟩ ⟨#[113,dgt j]⟩ = false:=by
 have:∀ i j:Fin 10,i.1≠j.1→eqB ⟨#[113,dgt i.1]⟩ ⟨#[113,dgt j.1]⟩ = false:=by decide +kernel
 exact fun i j hi hj h=>this ⟨i,hi⟩ ⟨j,hj⟩ h
def nmSrc:ByteArray:=⟨#[115,114,99]⟩
theorem nm_src:nameB nmSrc = true:=by decide +kernel
abbrev dcl0:Dcl:=⟨⟨#[]⟩,⟨#[]⟩,cnd0,⟨0,0,0⟩,[]⟩
theorem dcl_ok {s:Sch} {P:Nat} {c:Cnd} {x:Smp} {qs:List Qst} {N:Nat} (hE:schE s = 0) (hP:P < 10) (hc:chkC s c = 0) (hx:smpE x = 0) (h1:1≤qs.length) (hN:qs.length = N) (hN3:N≤3) (hq:∀ i (h:i < qs.length),qstE s qs[i] = 0∧qs[i].name = ⟨#[113,dgt (N - i)]⟩) :
 dclE s ⟨⟨#[112,dgt P]⟩,nmSrc,c,x,qs⟩ = 0:=by
 rw [dclE,if_neg (by rw [hE];simp),if_neg (by rw [(nm_p P hP).1,nm_src];simp),if_neg (by rw [hc];simp),if_neg (by rw [hx];simp),if_neg (by dsimp only;omega)]
 refine firstE_of fun i hi=>?_
 have hi:i < qs.length:=hi
 have hpi:qAt qs i = qs[i]:=by rw [qAt,getD_get hi]
 obtain ⟨a,b⟩:=hq i hi
 rw [qsE,hpi,if_neg (by rw [a];simp),if_neg]
 intro k
 obtain ⟨x,hx,e⟩:=List.any_eq_true.1 k
 obtain ⟨j,hj,rfl⟩:=List.mem_take_iff_getElem.1 hx
 have hj2:j < i∧j < qs.length:=by have:j < min i qs.length:=hj;omega
 rw [b,(hq j (by omega)).2,nm_qne (N - j) (N - i) (by omega) (by omega) (by omega)] at e
 cases e
theorem c_draw_Codes_Declaration (s:Sch) (hd:DrS s) (l:List UInt8) (a:Nat) (hl:l.length≤400) (ha:a≤l.length) :
 ∃ r:Dcl×Nat,(dclE s r.1 = 0∧r.2≤l.length)∧Spc Tryz.prog F_draw_Codes_Declaration [.ptr 0 1 0 0,schT s] [(0,oC l a)] (dclT r.1) [(0,oC l r.2)]:=by
 have hE:=hd.ok
 have hok:=schE_ok hE
 obtain ⟨p,a1,p1,p2,ha1,sP⟩:=x_Next l a 3 hl ha (by omega)
 obtain ⟨P,rfl⟩:=Int.eq_ofNat_of_zero_le p1
 have hIt:=c_Itoa P (by omega)
 obtain ⟨⟨c0,a2⟩,⟨hc0,ha2⟩,sC⟩:=c_draw_Codes_Cond s hd l hl 1 a1 ha1 (by omega)
 dsimp only at hc0 ha2 sC
 have hcf0:=hc0.chk hE (by omega)
 have hca:chkC s (.mk 1 0 0 0 0 []) = 0:=(atom_ok (s:=s) 1 (nd_all s) rfl).chk hE (by omega)
 obtain ⟨sd,a3,sd1,sd2,ha3,sS⟩:=x_Next l a2 999 hl ha2 (by omega)
 obtain ⟨o1,a4,ha4,sO⟩:=x_One l a3 3 hl ha3 (by omega)
 obtain ⟨o2,a5,ha5,sO2⟩:=x_One l a4 3 hl ha4 (by omega)
 obtain ⟨f,a6,f1,f2,ha6,sF⟩:=x_Range l a5 2 5 hl ha5 (by omega) (by omega)
 obtain ⟨g,a7,g1,g2,ha7,sG⟩:=x_Range l a6 1 f hl ha6 (by omega) (by omega)
 obtain ⟨ra,ba,ra1,ra2,hba,sRa⟩:=x_Range l a5 1 3 hl ha5 (by omega) (by omega)
 obtain ⟨Na,rfl⟩:=Int.eq_ofNat_of_zero_le (show 0≤ra by omega)
 obtain ⟨rb,bb,rb1,rb2,hbb,sRb⟩:=x_Range l a7 1 3 hl ha7 (by omega) (by omega)
 obtain ⟨Nb,rfl⟩:=Int.eq_ofNat_of_zero_le (show 0≤rb by omega)
 refine spec_of_irX0 fn_draw_Codes_Declaration mixm (fun r:Dcl×Nat=>dclT r.1) (fun r=>[(0,oC l r.2)]) (by simp) ?_
 unfold ir_draw_Codes_Declaration
 refine sW ?_
 refine XE.mp (fun _ _=>C1.draw 0 l a _ sP rfl rfl rfl) ?_
 refine sW ?_
 refine XE.mp (fun _ _=>C1.im hIt (by rfl) (by rfl)) ?_
 simp only [tZ,↓un_u,simprocAttr,app_dg]
 refine XE.sd (show 1 + 1≤9223372036854775807 by omega) ?_
 refine XE.mp (fun _ _=>C1.draw 0 l a1 _ sC rfl rfl rfl) ?_
 refine sW ?_
 refine XE.mp (fun _ _=>C1.draw 0 l a2 _ sS rfl rfl rfl) ?_
 refine sW ?_
 refine XE.sd (by kernel_rfl) ?_
 refine XE.mp (fun _ _=>C1.draw 0 l a3 _ sO rfl rfl rfl) ?_
 refine sW ?_
 apply XE.brB
 ·intro h1
  refine XE.mp (fun _ _=>C1.draw 0 l a4 _ sO2 rfl rfl rfl) ?_
  refine sW ?_
  apply XE.brB
  focus
   intro h2
   refine XE.mp (fun _ _=>C1.draw 0 l a5 _ sF rfl rfl rfl) ?_
   refine sW ?_
   refine XE.mp (fun _ _=>C1.draw 0 l a6 _ sG rfl rfl rfl) ?_
   refine sW ?_
   refine XE.mp (fun _ _=>C1.draw 0 l a7 _ (sRb) rfl rfl rfl) ?_
   refine sW ?_
   refine XE.loopF mixm [6,19,23] (fun y:List Qst×Nat=>y.1.length≤Nb∧(∀ i (h:i < y.1.length),qstE s y.1[i] = 0∧y.1[i].name = ⟨#[113,dgt (Nb - i)]⟩)∧y.2≤l.length) (fun y=>[(6,vI ((Nb - y.1.length:Nat):Int))]) (fun y=>[(0,oC l y.2),(4096,.arr 2 [schT s] false),(4100,.arr 12 [dclT dcl0] false),(8236,.arr 12 [.agg [vS ⟨#[112,dgt P]⟩,vS nmSrc,vI ((.mk 1 0 0 0 0 []):Cnd).op,vI ((.mk 1 0 0 0 0 []):Cnd).col,vI ((.mk 1 0 0 0 0 []):Cnd).code,vI ((.mk 1 0 0 0 0 []):Cnd).lo,vI ((.mk 1 0 0 0 0 []):Cnd).hi,vCs ((.mk 1 0 0 0 0 []):Cnd).kids,vI g,vI f,vI sd,.asl 1 y.1.length]] false),(1,.arr 17 (y.1.map qstT) false)]) (fun y=>Nb - y.1.length) ([],bb) ⟨by simp,fun i h=>by simp at h,hbb⟩ (fun e ⟨_,hst⟩=>?_) fun T' y hy ih=>?_
   ·exact .oA [(0,some 0),(4096,some 4096),(4100,some 4100),(8236,some 8236),(1,none)] []
   obtain ⟨qs,a8⟩:=y
   obtain ⟨y1,y2,y3⟩:=hy
   dsimp only at y1 y2 y3
   simp only [tZ,↓un_u,simprocAttr,decide_eq_true_eq,decide_eq_false_iff_not]
   refine XE.brN (fun h4=>?_) (fun h4=>?_)
   ·have hlt:qs.length < Nb:=by omega
    have hI:=c_Itoa (Nb - qs.length) (by omega)
    obtain ⟨⟨q,a9⟩,⟨⟨hq,hqn⟩,ha9⟩,sQ⟩:=c_draw_Codes_Question s hd ⟨#[113,dgt (Nb - qs.length)]⟩ (nm_p _ (by omega)).2 l a8 hl y3
    dsimp only at hq hqn ha9 sQ
    have hwk:=i64_pred (i:=Nb - qs.length) (by omega) (by omega)
    refine XE.mp (fun _ _=>C1.im hI (by rfl) (by rfl)) ?_
    simp only [tZ,↓un_u,simprocAttr,app_dg]
    refine XE.sd (show 1 + 1≤9223372036854775807 by omega) ?_
    refine XE.mp (fun _ _=>C1.draw 0 l a8 _ sQ rfl rfl rfl) ?_
    simp only [tZ,↓un_u,simprocAttr,hwk]
    refine XE.sd (by omega) (XE.sd (by kernel_rfl) ?_)
    refine XE.next ih (qs ++ [q],a9) ⟨by simp;omega,fun i h=>?_,ha9⟩ (by simp;omega) fun e ⟨_,hst⟩=>?_
    ·dsimp only at h ⊢
     by_cases hi:i < qs.length
     ·rw [List.getElem_append_left hi]
      exact y2 i hi
     ·have he:i = qs.length:=by rw [List.length_append] at h;simp at h;omega
      subst he
      rw [List.getElem_append_right (Nat.le_refl _)]
      simpa using And.intro hq hqn
    ·have e1:Nb - (qs ++ [q]).length = Nb - qs.length - 1:=by rw [List.length_append];simp;omega
     simp only [e1]
     exact .oA [(0,some 0),(4096,some 4096),(4100,some 4100),(8236,some 8236),(1,some 1)] []
   ·refine XE.fin (⟨⟨#[112,dgt P]⟩,nmSrc,(.mk 1 0 0 0 0 []),⟨g,f,sd⟩,qs⟩,a8) ⟨dcl_ok hE (by omega) hca (by rw [smpE,if_neg];dsimp only;omega) (by omega) rfl (by omega) (fun i h=>by have:=y2 i h;rwa [show Nb = qs.length by omega] at this),y3⟩ fun e ⟨_,hst⟩=>?_
    exact .oA [(0,some 0)] [1]
  focus
   intro h2
   refine XE.mp (fun _ _=>C1.draw 0 l a5 _ (sRa) rfl rfl rfl) ?_
   refine sW ?_
   refine XE.loopF mixm [6,19,23] (fun y:List Qst×Nat=>y.1.length≤Na∧(∀ i (h:i < y.1.length),qstE s y.1[i] = 0∧y.1[i].name = ⟨#[113,dgt (Na - i)]⟩)∧y.2≤l.length) (fun y=>[(6,vI ((Na - y.1.length:Nat):Int))]) (fun y=>[(0,oC l y.2),(4096,.arr 2 [schT s] false),(4100,.arr 12 [dclT dcl0] false),(8236,.arr 12 [.agg [vS ⟨#[112,dgt P]⟩,vS nmSrc,vI ((.mk 1 0 0 0 0 []):Cnd).op,vI ((.mk 1 0 0 0 0 []):Cnd).col,vI ((.mk 1 0 0 0 0 []):Cnd).code,vI ((.mk 1 0 0 0 0 []):Cnd).lo,vI ((.mk 1 0 0 0 0 []):Cnd).hi,vCs ((.mk 1 0 0 0 0 []):Cnd).kids,vI 1,vI 1,vI sd,.asl 1 y.1.length]] false),(1,.arr 17 (y.1.map qstT) false)]) (fun y=>Na - y.1.length) ([],ba) ⟨by simp,fun i h=>by simp at h,hba⟩ (fun e ⟨_,hst⟩=>?_) fun T' y hy ih=>?_
   ·exact .oA [(0,some 0),(4096,some 4096),(4100,some 4100),(8236,some 8236),(1,none)] []
   obtain ⟨qs,a8⟩:=y
   obtain ⟨y1,y2,y3⟩:=hy
   dsimp only at y1 y2 y3
   simp only [tZ,↓un_u,simprocAttr,decide_eq_true_eq,decide_eq_false_iff_not]
   refine XE.brN (fun h4=>?_) (fun h4=>?_)
   ·have hlt:qs.length < Na:=by omega
    have hI:=c_Itoa (Na - qs.length) (by omega)
    obtain ⟨⟨q,a9⟩,⟨⟨hq,hqn⟩,ha9⟩,sQ⟩:=c_draw_Codes_Question s hd ⟨#[113,dgt (Na - qs.length)]⟩ (nm_p _ (by omega)).2 l a8 hl y3
    dsimp only at hq hqn ha9 sQ
    have hwk:=i64_pred (i:=Na - qs.length) (by omega) (by omega)
    refine XE.mp (fun _ _=>C1.im hI (by rfl) (by rfl)) ?_
    simp only [tZ,↓un_u,simprocAttr,app_dg]
    refine XE.sd (show 1 + 1≤9223372036854775807 by omega) ?_
    refine XE.mp (fun _ _=>C1.draw 0 l a8 _ sQ rfl rfl rfl) ?_
    simp only [tZ,↓un_u,simprocAttr,hwk]
    refine XE.sd (by omega) (XE.sd (by kernel_rfl) ?_)
    refine XE.next ih (qs ++ [q],a9) ⟨by simp;omega,fun i h=>?_,ha9⟩ (by simp;omega) fun e ⟨_,hst⟩=>?_
    ·dsimp only at h ⊢
     by_cases hi:i < qs.length
     ·rw [List.getElem_append_left hi]
      exact y2 i hi
     ·have he:i = qs.length:=by rw [List.length_append] at h;simp at h;omega
      subst he
      rw [List.getElem_append_right (Nat.le_refl _)]
      simpa using And.intro hq hqn
    ·have e1:Na - (qs ++ [q]).length = Na - qs.length - 1:=by rw [List.length_append];simp;omega
     simp only [e1]
     exact .oA [(0,some 0),(4096,some 4096),(4100,some 4100),(8236,some 8236),(1,some 1)] []
   ·refine XE.fin (⟨⟨#[112,dgt P]⟩,nmSrc,(.mk 1 0 0 0 0 []),⟨1,1,sd⟩,qs⟩,a8) ⟨dcl_ok hE (by omega) hca (by rw [smpE,if_neg];dsimp only;omega) (by omega) rfl (by omega) (fun i h=>by have:=y2 i h;rwa [show Na = qs.length by omega] at this),y3⟩ fun e ⟨_,hst⟩=>?_
    exact .oA [(0,some 0)] [1]
 ·intro h1
  refine XE.mp (fun _ _=>C1.draw 0 l a4 _ sO2 rfl rfl rfl) ?_
  refine sW ?_
  apply XE.brB
  focus
   intro h2
   refine XE.mp (fun _ _=>C1.draw 0 l a5 _ sF rfl rfl rfl) ?_
   refine sW ?_
   refine XE.mp (fun _ _=>C1.draw 0 l a6 _ sG rfl rfl rfl) ?_
   refine sW ?_
   refine XE.mp (fun _ _=>C1.draw 0 l a7 _ (sRb) rfl rfl rfl) ?_
   refine sW ?_
   refine XE.loopF mixm [6,19,23] (fun y:List Qst×Nat=>y.1.length≤Nb∧(∀ i (h:i < y.1.length),qstE s y.1[i] = 0∧y.1[i].name = ⟨#[113,dgt (Nb - i)]⟩)∧y.2≤l.length) (fun y=>[(6,vI ((Nb - y.1.length:Nat):Int))]) (fun y=>[(0,oC l y.2),(4096,.arr 2 [schT s] false),(4100,.arr 12 [dclT dcl0] false),(8236,.arr 12 [.agg [vS ⟨#[112,dgt P]⟩,vS nmSrc,vI (c0:Cnd).op,vI (c0:Cnd).col,vI (c0:Cnd).code,vI (c0:Cnd).lo,vI (c0:Cnd).hi,vCs (c0:Cnd).kids,vI g,vI f,vI sd,.asl 1 y.1.length]] false),(1,.arr 17 (y.1.map qstT) false)]) (fun y=>Nb - y.1.length) ([],bb) ⟨by simp,fun i h=>by simp at h,hbb⟩ (fun e ⟨_,hst⟩=>?_) fun T' y hy ih=>?_
   ·exact .oA [(0,some 0),(4096,some 4096),(4100,some 4100),(8236,some 8236),(1,none)] []
   obtain ⟨qs,a8⟩:=y
   obtain ⟨y1,y2,y3⟩:=hy
   dsimp only at y1 y2 y3
   simp only [tZ,↓un_u,simprocAttr,decide_eq_true_eq,decide_eq_false_iff_not]
   refine XE.brN (fun h4=>?_) (fun h4=>?_)
   ·have hlt:qs.length < Nb:=by omega
    have hI:=c_Itoa (Nb - qs.length) (by omega)
    obtain ⟨⟨q,a9⟩,⟨⟨hq,hqn⟩,ha9⟩,sQ⟩:=c_draw_Codes_Question s hd ⟨#[113,dgt (Nb - qs.length)]⟩ (nm_p _ (by omega)).2 l a8 hl y3
    dsimp only at hq hqn ha9 sQ
    have hwk:=i64_pred (i:=Nb - qs.length) (by omega) (by omega)
    refine XE.mp (fun _ _=>C1.im hI (by rfl) (by rfl)) ?_
    simp only [tZ,↓un_u,simprocAttr,app_dg]
    refine XE.sd (show 1 + 1≤9223372036854775807 by omega) ?_
    refine XE.mp (fun _ _=>C1.draw 0 l a8 _ sQ rfl rfl rfl) ?_
    simp only [tZ,↓un_u,simprocAttr,hwk]
    refine XE.sd (by omega) (XE.sd (by kernel_rfl) ?_)
    refine XE.next ih (qs ++ [q],a9) ⟨by simp;omega,fun i h=>?_,ha9⟩ (by simp;omega) fun e ⟨_,hst⟩=>?_
    ·dsimp only at h ⊢
     by_cases hi:i < qs.length
     ·rw [List.getElem_append_left hi]
      exact y2 i hi
     ·have he:i = qs.length:=by rw [List.length_append] at h;simp at h;omega
      subst he
      rw [List.getElem_append_right (Nat.le_refl _)]
      simpa using And.intro hq hqn
    ·have e1:Nb - (qs ++ [q]).length = Nb - qs.length - 1:=by rw [List.length_append];simp;omega
     simp only [e1]
     exact .oA [(0,some 0),(4096,some 4096),(4100,some 4100),(8236,some 8236),(1,some 1)] []
   ·refine XE.fin (⟨⟨#[112,dgt P]⟩,nmSrc,c0,⟨g,f,sd⟩,qs⟩,a8) ⟨dcl_ok hE (by omega) hcf0 (by rw [smpE,if_neg];dsimp only;omega) (by omega) rfl (by omega) (fun i h=>by have:=y2 i h;rwa [show Nb = qs.length by omega] at this),y3⟩ fun e ⟨_,hst⟩=>?_
    exact .oA [(0,some 0)] [1]
  focus
   intro h2
   refine XE.mp (fun _ _=>C1.draw 0 l a5 _ (sRa) rfl rfl rfl) ?_
   refine sW ?_
   refine XE.loopF mixm [6,19,23] (fun y:List Qst×Nat=>y.1.length≤Na∧(∀ i (h:i < y.1.length),qstE s y.1[i] = 0∧y.1[i].name = ⟨#[113,dgt (Na - i)]⟩)∧y.2≤l.length) (fun y=>[(6,vI ((Na - y.1.length:Nat):Int))]) (fun y=>[(0,oC l y.2),(4096,.arr 2 [schT s] false),(4100,.arr 12 [dclT dcl0] false),(8236,.arr 12 [.agg [vS ⟨#[112,dgt P]⟩,vS nmSrc,vI (c0:Cnd).op,vI (c0:Cnd).col,vI (c0:Cnd).code,vI (c0:Cnd).lo,vI (c0:Cnd).hi,vCs (c0:Cnd).kids,vI 1,vI 1,vI sd,.asl 1 y.1.length]] false),(1,.arr 17 (y.1.map qstT) false)]) (fun y=>Na - y.1.length) ([],ba) ⟨by simp,fun i h=>by simp at h,hba⟩ (fun e ⟨_,hst⟩=>?_) fun T' y hy ih=>?_
   ·exact .oA [(0,some 0),(4096,some 4096),(4100,some 4100),(8236,some 8236),(1,none)] []
   obtain ⟨qs,a8⟩:=y
   obtain ⟨y1,y2,y3⟩:=hy
   dsimp only at y1 y2 y3
   simp only [tZ,↓un_u,simprocAttr,decide_eq_true_eq,decide_eq_false_iff_not]
   refine XE.brN (fun h4=>?_) (fun h4=>?_)
   ·have hlt:qs.length < Na:=by omega
    have hI:=c_Itoa (Na - qs.length) (by omega)
    obtain ⟨⟨q,a9⟩,⟨⟨hq,hqn⟩,ha9⟩,sQ⟩:=c_draw_Codes_Question s hd ⟨#[113,dgt (Na - qs.length)]⟩ (nm_p _ (by omega)).2 l a8 hl y3
    dsimp only at hq hqn ha9 sQ
    have hwk:=i64_pred (i:=Na - qs.length) (by omega) (by omega)
    refine XE.mp (fun _ _=>C1.im hI (by rfl) (by rfl)) ?_
    simp only [tZ,↓un_u,simprocAttr,app_dg]
    refine XE.sd (show 1 + 1≤9223372036854775807 by omega) ?_
    refine XE.mp (fun _ _=>C1.draw 0 l a8 _ sQ rfl rfl rfl) ?_
    simp only [tZ,↓un_u,simprocAttr,hwk]
    refine XE.sd (by omega) (XE.sd (by kernel_rfl) ?_)
    refine XE.next ih (qs ++ [q],a9) ⟨by simp;omega,fun i h=>?_,ha9⟩ (by simp;omega) fun e ⟨_,hst⟩=>?_
    ·dsimp only at h ⊢
     by_cases hi:i < qs.length
     ·rw [List.getElem_append_left hi]
      exact y2 i hi
     ·have he:i = qs.length:=by rw [List.length_append] at h;simp at h;omega
      subst he
      rw [List.getElem_append_right (Nat.le_refl _)]
      simpa using And.intro hq hqn
    ·have e1:Na - (qs ++ [q]).length = Na - qs.length - 1:=by rw [List.length_append];simp;omega
     simp only [e1]
     exact .oA [(0,some 0),(4096,some 4096),(4100,some 4100),(8236,some 8236),(1,some 1)] []
   ·refine XE.fin (⟨⟨#[112,dgt P]⟩,nmSrc,c0,⟨1,1,sd⟩,qs⟩,a8) ⟨dcl_ok hE (by omega) hcf0 (by rw [smpE,if_neg];dsimp only;omega) (by omega) rfl (by omega) (fun i h=>by have:=y2 i h;rwa [show Na = qs.length by omega] at this),y3⟩ fun e ⟨_,hst⟩=>?_
    exact .oA [(0,some 0)] [1]
theorem x_Secret (l:List UInt8) (a:Nat) (hl:l.length≤400) (ha:a≤l.length) :
 ∃ (k:Int) (b:Nat),0≤k∧k < 1152921504606846976∧b≤l.length∧Spc Tryz.prog F_draw_Codes_Secret [.ptr 0 1 0 0] [(0,oC l a)] (vI k) [(0,oC l b)]:=by
 obtain ⟨u,a1,u1,u2,ha1,s1⟩:=x_Next l a 60000 hl ha (by omega)
 obtain ⟨v,a2,v1,v2,ha2,s2⟩:=x_Next l a1 60000 hl ha1 (by omega)
 obtain ⟨w,a3,w1,w2,ha3,s3⟩:=x_Next l a2 7 hl ha2 (by omega)
 have h1:0≤u * v:=Int.mul_nonneg u1 v1
 have h2:u * v≤60000 * 60000:=Int.mul_le_mul (by omega) (by omega) v1 (by omega)
 refine ⟨u * v + w,a3,by omega,by omega,ha3,?_⟩
 have hw1:IntKind.i64.wrap (u * v) = u * v:=IntWalk.i64_in _ (by omega)
 have hw2:IntKind.i64.wrap (u * v + w) = u * v + w:=IntWalk.i64_in _ (by omega)
 refine spec_of_ir fn_draw_Codes_Secret mixm (by simp) fun e _ hst=>W_start ?_
 unfold ir_draw_Codes_Secret
 refine sW ?_
 refine C1.draw 0 l a _ s1 rfl rfl rfl ?_
 refine sW ?_
 refine C1.draw 0 l a1 _ s2 rfl rfl rfl ?_
 simp only [tZ,↓un_u,simprocAttr,hw1]
 refine C1.draw 0 l a2 _ s3 rfl rfl rfl ?_
 simp only [tZ,↓un_u,simprocAttr,hw1,hw2]
 exact .oA [(0,some 0)] []
end Go.Proofs
set_option linter.unusedSimpArgs false
set_option linter.unusedVariables false
namespace Go.Proofs
open Go Go.TL
set_option maxRecDepth 4000
set_option maxHeartbeats 4000000
structure DrE (x:Src) (d:Edt):Prop where
 kind:1≤d.kind∧d.kind≤4
 len:d.row.length≤8
theorem c_draw_Codes_Edit (x:Src) (hD:DrS x.sch) (hr:∀ r∈x.rows,0 < r.length) (hn:x.rows.length≤1000) (l:List UInt8) (a:Nat) (hl:l.length≤400) (ha:a≤l.length) :
 ∃ r:Edt×Nat,(DrE x r.1∧r.2≤l.length)∧Spc Tryz.prog F_draw_Codes_Edit [.ptr 0 1 0 0,srcT x] [(0,oC l a)] (edtT r.1) [(0,oC l r.2)]:=by
 obtain ⟨k,a1,k1,k2,ha1,sK⟩:=x_Range l a 1 4 hl ha (by omega) (by omega)
 obtain ⟨w,c,i1,i2,hc,sI⟩:=x_Range l a1 1 60 hl ha1 (by omega) (by omega)
 have hnc:=(schE_ok hD.ok).nc
 refine spec_of_irX0 fn_draw_Codes_Edit mixm (fun r:Edt×Nat=>edtT r.1) (fun r=>[(0,oC l r.2)]) (by simp) ?_
 unfold ir_draw_Codes_Edit
 refine sW ?_
 refine XE.mp (fun _ _=>C1.draw 0 l a _ sK rfl rfl rfl) ?_
 refine sW ?_
 refine XE.mp (fun _ _=>C1.draw 0 l a1 _ sI rfl rfl rfl) ?_
 rcases Nat.eq_zero_or_pos x.rows.length with h0 | h0
 focus
  have e0:decide ((x.rows.length:Int) > 0) = false:=decide_eq_false (by omega)
  simp only [tZ,↓un_u,simprocAttr,e0]
  refine XE.mp (fun _ _=>C2.no (by simp)) ?_
  refine sW ?_
  obtain ⟨v,hv⟩:∃ v,v = w:=⟨_,rfl⟩
  obtain ⟨b,hb⟩:∃ b,b = c:=⟨_,rfl⟩
  rw [← hv,← hb]
  have hb:b≤l.length:=by omega
 rotate_left
 focus
  have e0:decide ((x.rows.length:Int) > 0) = true:=decide_eq_true (by omega)
  obtain ⟨o,a3,ha3,sO⟩:=x_One l c 2 hl hc (by omega)
  obtain ⟨j,a4,j1,j2,ha4,sJ⟩:=x_Next l a3 x.rows.length hl ha3 (by omega)
  obtain ⟨m,rfl⟩:=Int.eq_ofNat_of_zero_le j1
  have hm:m < x.rows.length:=by omega
  have hgm:=getD_hd (hr _ (List.getElem_mem hm))
  have hrm:=hr _ (List.getElem_mem hm)
  simp only [tZ,↓un_u,simprocAttr,e0]
  refine XE.mp (fun _ _=>C2.one (by trivial)) ?_
  refine XE.mp (fun _ _=>C1.draw 0 l c _ sO rfl rfl rfl) ?_
  refine sW ?_
  refine XE.brB (fun h3=>?_) (fun h3=>?_)
  focus
   refine XE.mp (fun _ _=>C1.draw 0 l a3 _ sJ rfl rfl rfl) ?_
   simp only [tZ,↓un_u,simprocAttr,Int.toNat_natCast,getD_mapT hm,hgm]
   refine XE.sd (by omega) (XE.sd (by omega) (XE.sd (by kernel_rfl) ?_))
   generalize hd x.rows[m] = v
   obtain ⟨b,hb⟩:∃ b,b = a4:=⟨_,rfl⟩
   rw [← hb]
   have hb:b≤l.length:=by omega
  rotate_left
  focus
   obtain ⟨v,hv⟩:∃ v,v = w:=⟨_,rfl⟩
   obtain ⟨b,hb⟩:∃ b,b = a3:=⟨_,rfl⟩
   rw [← hv,← hb]
   have hb:b≤l.length:=by omega
 all_goals (
  refine XE.brB (fun h5=>?_) (fun h5=>?_)
  ·obtain ⟨⟨row,a2⟩,⟨hr2,ha2⟩,sR⟩:=c_draw_Codes_Row x.sch hD l b hl hb
   dsimp only at hr2 ha2 sR
   have hrl:=(rowE_ok hr2).2.1
   obtain ⟨r0,rs,rfl⟩:∃ r0 rs,row = r0 :: rs:=by
    cases row with
    | nil=>have:=row_pos hr2;simp at this
    | cons r0 rs=>exact ⟨r0,rs,rfl⟩
   refine XE.mp (fun _ _=>C1.drawF 0 24588 l b a2 sR rfl rfl (ints_v _) rfl) ?_
   simp only [tZ,↓un_u,simprocAttr,beq_iff_eq,beq_eq_false_iff_ne]
   refine XE.brN (fun h6=>?_) (fun h6=>?_)
   ·refine XE.sd (by omega) (XE.sd (by omega) ?_)
    refine XE.fin (⟨k,v :: rs,0⟩,a2) ⟨⟨⟨k1,k2⟩,by simp at hrl ⊢;omega⟩,ha2⟩ fun e ⟨_,hst⟩=>?_
    exact .oA [(0,some 0)] [24588]
   ·refine XE.fin (⟨k,r0 :: rs,0⟩,a2) ⟨⟨⟨k1,k2⟩,by dsimp only;omega⟩,ha2⟩ fun e ⟨_,hst⟩=>?_
    exact .oA [(0,some 0)] [24588]
  ·refine XE.fin (⟨k,[],v⟩,b) ⟨⟨⟨k1,k2⟩,by simp⟩,hb⟩ fun e ⟨_,hst⟩=>?_
   exact .oA [(0,some 0)] []
  )
theorem c_draw_Codes_Edits (x:Src) (hx:DrX x) (most:Int) (l:List UInt8) (a:Nat) (hl:l.length≤400) (ha:a≤l.length) (hm:0≤most∧most≤100) :
 ∃ r:List Edt×Nat,((atS x r.1).2 = 0∧r.1.length≤most∧(∀ d∈r.1,1≤d.kind∧d.kind≤4∧d.row.length≤8)∧r.2≤l.length)∧Spc Tryz.prog F_draw_Codes_Edits [.ptr 0 1 0 0,srcT x,vI most] [(0,oC l a)] (.sl 3 (r.1.map edtT)) [(0,oC l r.2)]:=by
 obtain ⟨v,a1,v1,v2,ha1,sN⟩:=x_Next l a (most + 1) hl ha (by omega)
 obtain ⟨N,rfl⟩:=Int.eq_ofNat_of_zero_le v1
 have hw:IntKind.i64.wrap (most + 1) = most + 1:=IntWalk.i64_in _ (by omega)
 refine spec_of_irX0 fn_draw_Codes_Edits mixm (fun r:List Edt×Nat=>.sl 3 (r.1.map edtT)) (fun r=>[(0,oC l r.2)]) (by simp) ?_
 unfold ir_draw_Codes_Edits
 simp only [tZ,↓un_u,simprocAttr,hw]
 refine XE.mp (fun _ _=>C1.draw 0 l a _ sN rfl rfl rfl) ?_
 refine sW ?_
 refine XE.loopF mixm [7,8] (fun y:Nat×List Edt×Nat=>y.2.1.length + y.1≤N∧(atS x y.2.1).2 = 0∧(∀ d∈y.2.1,1≤d.kind∧d.kind≤4∧d.row.length≤8)∧y.2.2≤l.length) (fun y=>[(7,.asl 1 y.2.1.length),(8,vI y.1)]) (fun y=>[(0,oC l y.2.2),(4096,.arr 5 [srcT (atS x y.2.1).1] false),(1,.arr 3 (y.2.1.map edtT) false)]) (fun y=>y.1) (N,[],a1) ⟨by simp,rfl,by simp,ha1⟩ (fun e ⟨_,hst⟩=>?_) fun T' y hy ih=>?_
 ·show Le _ _ ⟨_,[(0,oC l a1),(4096,.arr 5 [srcT x] false),(1,.arr 3 [] false)]⟩
  exact .oA [(0,some 0),(4096,some 4096),(1,none)] []
 obtain ⟨k,es,a2⟩:=y
 obtain ⟨y1,y2,y3,y4⟩:=hy
 dsimp only at y1 y2 y3 y4
 have hso:=atS_ok hx.ok (by rw [hx.gone,hx.ver];simp) y2
 have hsn:=fun d=>atS_snoc es x d y2
 simp only [tZ,↓un_u,simprocAttr,decide_eq_true_eq,decide_eq_false_iff_not]
 generalize hz2:(atS x es).1 = z at hso hsn ⊢
 refine XE.brN (fun h4=>?_) (fun h4=>?_)
 ·have hok:=hso.1
  have hsm:SrcSm z:=⟨(schE_ok hok.sch).sm,fun r hr=>by
   have:=(rowE_ok (hok.rows r hr)).2.1
   have:=(schE_ok hok.sch).nc
   omega⟩
  have hnr:=hok.nr
  obtain ⟨⟨d,a3⟩,⟨hd1,ha3⟩,sE⟩:=c_draw_Codes_Edit z (by rw [hso.2.2];exact hx.sch) hok.rowp (by omega) l a2 hl y4
  dsimp only at hd1 ha3 sE
  have hdl:=hd1.len
  have hsn:=hsn d
  have hwk:=i64_pred (i:=k) (by omega) (by omega)
  refine XE.mp (fun _ _=>C1.draw 0 l a2 _ sE rfl rfl rfl) ?_
  refine sW ?_
  refine XE.mp (fun _ _=>C1.im (c_ref04_Apply z d hsm (by omega)) (by rfl) (by rfl)) ?_
  simp only [tZ,↓un_u,simprocAttr,hwk,beq_iff_eq,beq_eq_false_iff_ne]
  refine XE.brN (fun h5=>?_) (fun h5=>?_)
  ·rw [if_neg (by rw [h5];simp)] at hsn
   refine XE.sd (by omega) ?_
   refine XE.next ih (k - 1,es ++ [d],a3) ⟨by simp;omega,by dsimp only;rw [hsn],fun d2 hd2=>?_,ha3⟩ (by dsimp only;omega) fun e ⟨_,hst⟩=>?_
   ·rcases List.mem_append.1 hd2 with h | h
    ·exact y3 d2 h
    ·rw [List.mem_singleton.1 h];exact ⟨hd1.kind.1,hd1.kind.2,hdl⟩
   ·dsimp only
    simp only [hsn]
    exact .oA [(0,some 0),(4096,some 4096),(1,some 1)] []
  ·refine XE.next ih (k - 1,es,a3) ⟨by dsimp only;omega,y2,y3,ha3⟩ (by dsimp only;omega) fun e ⟨_,hst⟩=>?_
   dsimp only
   rw [hz2]
   exact .oA [(0,some 0),(4096,some 4096),(1,some 1)] []
 ·refine XE.fin (es,a2) ⟨y2,by dsimp only;omega,y3,y4⟩ fun e ⟨_,hst⟩=>?_
  exact .oA [(0,some 0)] [1]
end Go.Proofs
set_option linter.unusedSimpArgs false
set_option linter.unusedVariables false
namespace Go.Proofs
open Go Go.TL
set_option maxRecDepth 4000
set_option maxHeartbeats 8000000
open So
theorem SrcOk.smx {s:Src} (h:SrcOk s):SrcSm s:=⟨(schE_ok h.sch).sm,fun r hr=>by
 have h1:=(rowE_ok (h.rows r hr)).2.1
 have h2:=(schE_ok h.sch).nc
 omega⟩
structure TwoOk (a b:Ext):Prop where
 pa:a.proj = b.proj
 pk:a.picks = b.picks
 oa:ExtOk a
 ob:ExtOk b
 sa:ExtSm a
 sb:ExtSm b
 na:a.rows.length≤200
 nb:b.rows.length≤200
theorem TwoOk.symm {a b:Ext} (h:TwoOk a b):TwoOk b a:=⟨h.pa.symm,h.pk.symm,h.ob,h.oa,h.sb,h.sa,h.nb,h.na⟩
theorem rows_ok (s:Src) (l:List Pk) (k:Int):∀ (m A:List (List Int)),AscR A→(∀ r∈A,r.length = l.length + 1)→AscR (m.foldl (buildF s l k) A)∧(∀ r∈m.foldl (buildF s l k) A,r.length = l.length + 1)∧(m.foldl (buildF s l k) A).length≤A.length + m.length
 | [],A,h1,h2=>⟨h1,h2,by simp⟩
 | r :: m,A,h1,h2=>by
   obtain ⟨k1,k2,k3⟩:=rows_ok s l k m (buildF s l k A r) (putR_asc h1) (fun x hx=>by
    rcases (putR_mem h1).1 hx with e | ⟨hx,_⟩
    ·rw [e];simp [rowX]
    ·exact h2 x hx)
   have h3:=putR_len A (rowX s l k r)
   refine ⟨k1,k2,?_⟩
   have h4:(buildF s l k A r).length≤A.length + 1:=h3
   rw [List.foldl_cons,List.length_cons]
   omega
theorem ownR_len {s:Src} (h:SrcOk s) (d:Dcl):(ownR s d).length≤200:=by
 have:=h.nr
 unfold ownR
 split
 ·simp
 ·exact Nat.le_trans (List.length_filter_le _ _) h.nr
theorem ext_ok {s:Src} (h:SrcOk s) (d:Dcl) (l:List Pk) (k:Int) (hl:l.length≤800):ExtOk ⟨d.proj,s.ver,l,buildR s d l k⟩∧ExtSm ⟨d.proj,s.ver,l,buildR s d l k⟩∧(buildR s d l k).length≤200:=by
 obtain ⟨h1,h2,h3⟩:=rows_ok s l k (ownR s d) [] List.Pairwise.nil (by simp)
 have h4:=ownR_len h d
 have h5:(buildR s d l k).length≤200:=by
  unfold buildR
  simp only [List.length_nil] at h3
  omega
 refine ⟨⟨ordB_ok.2 ⟨fun r hr=>by rw [h2 r hr];omega,h1⟩,h2⟩,⟨⟨by dsimp only;omega,fun r hr=>by rw [h2 r hr];omega⟩,by dsimp only;omega⟩,h5⟩
theorem ext0_ok:ExtOk ext0∧ExtSm ext0:=⟨⟨by rfl,by simp⟩,⟨⟨by decide,by simp⟩,by decide⟩⟩
theorem build_ok {s s2:Src} (h1:SrcOk s) (h2:SrcOk s2) (he:s2.sch = s.sch) (d:Dcl) (l:List Pk) (k:Int) (hl:l.length≤800):TwoOk (buildX s d l k) (buildX s2 d l k):=by
 have hb:buildE s2 d l k = buildE s d l k:=by
  unfold buildE
  rw [srcB_ok.2 h1,srcB_ok.2 h2,he]
 unfold buildX
 rw [hb]
 split
 ·exact ⟨rfl,rfl,ext0_ok.1,ext0_ok.1,ext0_ok.2,ext0_ok.2,by decide,by decide⟩
 ·obtain ⟨a1,a2,a3⟩:=ext_ok h1 d l k hl
  obtain ⟨b1,b2,b3⟩:=ext_ok h2 d l k hl
  exact ⟨rfl,rfl,a1,b1,a2,b2,a3,b3⟩
theorem x_two (l:List UInt8):∃ (s:Src) (d:Dcl) (pl:List Pk) (es:List Edt) (k:Int),(DrX s∧(atS s es).2 = 0∧es.length≤6∧(∀ d∈es,1≤d.kind∧d.kind≤4∧d.row.length≤8)∧0≤k∧k < 1152921504606846976∧pl.length≤800)∧
 Spc Tryz.prog F_law14_two [vL l] [] (.tup [extT (buildX s d pl k),extT (buildX (atS s es).1 d pl k),.sl 3 (es.map edtT),vI k]) []:=by
 have hl4:(l.take 400).length≤400:=by rw [List.length_take];omega
 obtain ⟨⟨s,a1⟩,⟨hX,ha1⟩,sS⟩:=c_draw_Codes_Source 8 (l.take 400) 0 hl4 (by omega) (by omega)
 dsimp only at hX ha1 sS
 obtain ⟨⟨d,a2⟩,⟨hd0,ha2⟩,sD⟩:=c_draw_Codes_Declaration s.sch hX.sch (l.take 400) a1 hl4 ha1
 dsimp only at hd0 ha2 sD
 obtain ⟨k,a3,k1,k2,ha3,sK⟩:=x_Secret (l.take 400) a2 hl4 ha2
 obtain ⟨⟨es,a4⟩,⟨he0,hel,hek,ha4⟩,sE⟩:=c_draw_Codes_Edits s hX 6 (l.take 400) a3 hl4 ha3 (by omega)
 dsimp only at he0 hel hek ha4 sE
 have hok:=hX.ok
 have hsm:=hok.smx
 have hsc:=schE_ok hok.sch
 have hnl:0 < s.sch.lists.length:=by
  obtain ⟨a,b,e,_⟩:=hX.sch.ls
  rw [e];simp
 obtain ⟨o1,o2,o3⟩:=atS_ok hok (by rw [hX.gone,hX.ver];simp) he0
 have hsm2:=o1.smx
 refine ⟨s,d,planL s.sch d,es,k,⟨hX,he0,by omega,hek,k1,k2,planL_len _ _⟩,?_⟩
 have hPl:=planL_len s.sch d
 have sP:=c_ref10_Plan s.sch hsm.1 (by omega) d
 have sA:=c_ref04_At s es es.length hsm (fun d hd=>by have:=hek d hd;omega) (by omega)
 rw [show atI s es es.length = atS s es by rw [atI,if_neg (by omega),Int.toNat_natCast,List.take_length]] at sA
 have sB1:=c_ref13_Build s d (planL s.sch d) k hsm (by omega) (by omega)
 have sB2:=c_ref13_Build (atS s es).1 d (planL s.sch d) k hsm2 (by rw [o3];omega) (by omega)
 refine spec_of_ir fn_law14_two mixm (by simp) fun e _ hst=>W_start ?_
 unfold ir_law14_two
 refine sW ?_
 refine C1.newdraw 8196 (c_draw_New l) rfl rfl ?_
 generalize l.take 400 = m at hl4 sS sD sK sE ha1 ha2 ha3 ha4 ⊢
 refine sW ?_
 refine C1.draw 8196 m 0 _ sS rfl rfl rfl ?_
 refine sW ?_
 refine C1.draw 8196 m a1 _ sD rfl rfl rfl ?_
 refine sW ?_
 refine C1.im sP (by rfl) (by rfl) ?_
 refine sW ?_
 refine C1.draw 8196 m a2 _ sK rfl rfl rfl ?_
 refine sW ?_
 refine C1.draw 8196 m a3 _ sE rfl rfl rfl ?_
 refine sW ?_
 refine C1.im sA (by rfl) (by rfl) ?_
 refine sW ?_
 refine C1.im sB1 (by rfl) (by rfl) ?_
 refine sW ?_
 refine C1.im sB2 (by rfl) (by rfl) ?_
 refine sW ?_
 refine ⟨by kernel_rfl,?_⟩
 exact .oA [] []
end Go.Proofs
set_option linter.unusedSimpArgs false
set_option linter.unusedVariables false
namespace Go.Proofs
open Go Go.TL
set_option maxRecDepth 4000
set_option maxHeartbeats 8000000
open So
theorem eqB_self (x:ByteArray):eqB x x = true:=by
 show (x.toList == x.toList) = true
 simp
theorem two_step {a b:Ext} (h:TwoOk a b):diffE a b = 0∧appE a (diffC a b) = 0∧appX a (diffC a b) = b∧ChgSm (diffC a b):=by
 obtain ⟨h1,h2,h3⟩:=diff_apply h.oa.ord h.ob (by rw [h.pa];exact eqB_self _) (samePk_iff.2 h.pk) (by rw [h.pk])
 have e:(⟨a.proj,b.ver,a.picks,b.rows⟩:Ext) = b:=by rw [h.pa,h.pk]
 rw [e] at h3
 refine ⟨h1,h2,h3,?_⟩
 have hc:diffC a b = ⟨b.ver,diffG a.rows b.rows,diffR a.rows b.rows⟩:=by rw [diffC,if_neg (by rw [h1];simp)]
 rw [hc]
 have g1:=diffG_len b.rows a.rows
 have g2:=diffR_len a.rows b.rows
 have n1:=h.na
 have n2:=h.nb
 exact ⟨⟨by dsimp only;omega,fun r hr=>h.sb.rows.2 r (List.mem_filter.1 hr).1⟩,by dsimp only;omega⟩
theorem two_of {s:Src} {es:List Edt} (hX:DrX s) (h:(atS s es).2 = 0) (d:Dcl) (pl:List Pk) (k:Int) (hl:pl.length≤800):TwoOk (buildX s d pl k) (buildX (atS s es).1 d pl k):=by
 obtain ⟨o1,o2,o3⟩:=atS_ok hX.ok (by rw [hX.gone,hX.ver];simp) h
 exact build_ok hX.ok o1 o3 d pl k hl
end Go.Proofs
set_option linter.unusedSimpArgs false
set_option linter.unusedVariables false
namespace Go.Proofs
open Go Go.TL
set_option maxRecDepth 4000
set_option maxHeartbeats 8000000
open So
theorem setI_mem {l:List Int} {x:Int}:x∈setI l↔x∈l:=by
 obtain ⟨_,h⟩:=insU_fold ltI_ord ltI_tot ltI_trans eqI2_iff l (l:=[]) .nil
 unfold setI
 rw [h]
 simp
def touchL (e:Edt):List Int:=if e.kind = 1∨e.kind = 2 then (if 0 < e.row.length then [hd e.row] else []) else if e.kind = 3∨e.kind = 4 then [e.id] else []
def segL (es:List Edt) (a i:Nat):List Int:=((es.take i).drop a).flatMap touchL
def touchS (es:List Edt) (a b:Int):List Int:=if a < 0∨a > b∨b > es.length then [] else setI (segL es a.toNat b.toNat)
theorem touchL_len (e:Edt):(touchL e).length≤1:=by
 unfold touchL
 split
 ·split <;> simp
 ·split <;> simp
theorem seg_len:∀ m:List Edt,(m.flatMap touchL).length≤m.length
 | []=>by simp
 | e :: m=>by
   rw [List.flatMap_cons,List.length_append,List.length_cons]
   have:=seg_len m
   have:=touchL_len e
   omega
theorem segL_len (es:List Edt) (a i:Nat):(segL es a i).length≤es.length:=by
 have:=seg_len ((es.take i).drop a)
 rw [List.length_drop,List.length_take] at this
 unfold segL
 omega
def tkF (k:Int) (l:List Int):List Int:=(l.map (keyI k)).filter fun x=>decide (0≤x)
def tkS (es:List Edt) (a b k:Int):List Int:=setI (tkF k (touchS es a b))
theorem touchS_len (es:List Edt) (a b:Int):(touchS es a b).length≤es.length:=by
 unfold touchS
 split
 ·simp
 ·have:=set_len (segL es a.toNat b.toNat)
  have:=segL_len es a.toNat b.toNat
  omega
theorem tkF_len (k:Int) (l:List Int):(tkF k l).length≤l.length:=by
 unfold tkF
 have:=List.length_filter_le (fun x:Int=>decide (0≤x)) (l.map (keyI k))
 rw [List.length_map] at this
 exact this
theorem tkF_succ {k:Int} {l:List Int} {i:Nat} (h:i < l.length):tkF k (l.take (i + 1)) = tkF k (l.take i) ++ if 0≤keyI k l[i] then [keyI k l[i]] else []:=by
 unfold tkF
 rw [take_snoc h,List.map_append,List.filter_append,List.map_cons,List.map_nil,List.filter_cons,List.filter_nil]
 congr 1
 by_cases c:0≤keyI k l[i]
 ·rw [if_pos (by simpa using c),if_pos c]
 ·rw [if_neg (by simpa using c),if_neg c]
end Go.Proofs
set_option linter.unusedSimpArgs false
set_option linter.unusedVariables false
namespace Go.Proofs
open Go Go.TL
set_option maxRecDepth 4000
set_option maxHeartbeats 8000000
open So
theorem seg_succ {m:List Edt} {i:Nat} (h:i < m.length):(m.take (i + 1)).flatMap touchL = (m.take i).flatMap touchL ++ touchL m[i]:=by
 rw [take_snoc h,List.flatMap_append,List.flatMap_cons,List.flatMap_nil,List.append_nil]
theorem c_source_Touched (es:List Edt) (a b:Int) (hl:es.length≤12):Spc Tryz.prog F_source_Touched [.sl 3 (es.map edtT),vI a,vI b] [] (vIs (touchS es a b)) []:=by
 refine spec_of_ir fn_source_Touched mixm (by simp) fun e _ hst=>W_start ?_
 unfold ir_source_Touched
 refine sW ?_
 refine sD ?_
 refine ⟨fun h=>?_,fun h=>?_⟩
 ·rw [touchS,if_pos (by omega)]
  exact .oA [] []
 rw [touchS,if_neg (by omega)]
 obtain ⟨A,rfl⟩:=Int.eq_ofNat_of_zero_le (show 0≤a by omega)
 obtain ⟨B,rfl⟩:=Int.eq_ofNat_of_zero_le (show 0≤b by omega)
 simp only [Int.toNat_natCast,segL]
 have hml:((es.take B).drop A).length≤12:=by rw [List.length_drop,List.length_take];omega
 have hmm:cutT (A:Int) (B:Int) (es.map edtT) = ((es.take B).drop A).map edtT:=by
  unfold cutT
  simp [List.map_take,List.map_drop]
 refine ⟨by omega,?_⟩
 rw [hmm]
 generalize (es.take B).drop A = m at hml
 rw [List.length_map]
 refine W_loopF mixm (α:=Nat) [7,28] (fun i=>i≤m.length) (fun i=>[(7,.asl 1 ((m.take i).flatMap touchL).length),(28,vI i)]) (fun i=>[(1,.arr 1 (((m.take i).flatMap touchL).map vI) false)]) (fun i=>m.length - i) 0 (by omega) ?_ fun i hi=>?_
 ·exact .oA [(1,none)] []
 have hsl:=seg_len (m.take i)
 rw [List.length_take] at hsl
 refine sD ?_
 refine ⟨fun h2=>?_,fun h2=>?_⟩
 ·have hi2:i < m.length:=by omega
  have hwi:=i64_succ (i:=i) (by omega)
  have hs:=seg_succ hi2
  generalize (m.take i).flatMap touchL = K at hsl hs ⊢
  have hT:touchL m[i] = if m[i].kind = 1∨m[i].kind = 2 then (if 0 < m[i].row.length then [hd m[i].row] else []) else if m[i].kind = 3∨m[i].kind = 4 then [m[i].id] else []:=rfl
  simp only [tZ,↓un_u,simprocAttr,Int.toNat_natCast,getD_mapT hi2,tD,beq_iff_eq,beq_eq_false_iff_ne]
  refine ⟨by omega,?_⟩
  by_cases k12:m[i].kind = 1∨m[i].kind = 2
  ·rw [if_pos k12] at hT
   refine mid (fun hmain=>⟨fun k1=>⟨fun _=>hmain,fun k=>absurd k1 k⟩,fun k1=>⟨fun k2=>hmain,fun k2=>absurd k12 fun h=>h.elim k1 k2⟩⟩) ?_
   refine ⟨fun h4=>?_,fun h4=>?_⟩
   ·have h5:0 < m[i].row.length:=by omega
    rw [if_pos h5] at hT
    rw [hT] at hs
    have hspl:=congrArg List.length hs
    simp only [List.length_append,List.length_cons,List.length_nil] at hspl
    simp only [tZ,↓un_u,simprocAttr,getD_hd h5,hwi]
    refine ⟨by omega,by omega,i + 1,by omega,by omega,?_⟩
    rw [hs]
    exact .oA [(1,some 1)] []
   ·rw [if_neg (by omega)] at hT
    rw [hT,List.append_nil] at hs
    simp only [tZ,↓un_u,simprocAttr,hwi]
    refine ⟨i + 1,by omega,by omega,?_⟩
    rw [hs]
    exact .oA [(1,some 1)] []
  rw [if_neg k12] at hT
  refine ⟨fun k1=>absurd (.inl k1) k12,fun k1=>⟨fun k2=>absurd (.inr k2) k12,fun k2=>?_⟩⟩
  by_cases k34:m[i].kind = 3∨m[i].kind = 4
  ·rw [if_pos k34] at hT
   rw [hT] at hs
   have hspl:=congrArg List.length hs
   simp only [List.length_append,List.length_cons,List.length_nil] at hspl
   refine mid (fun hmain=>⟨fun k3=>⟨fun _=>hmain,fun k=>absurd k3 k⟩,fun k3=>⟨fun k4=>hmain,fun k4=>absurd k34 fun h=>h.elim k3 k4⟩⟩) ?_
   simp only [tZ,↓un_u,simprocAttr,hwi]
   refine ⟨by omega,i + 1,by omega,by omega,?_⟩
   rw [hs]
   exact .oA [(1,some 1)] []
  ·rw [if_neg k34] at hT
   rw [hT,List.append_nil] at hs
   refine ⟨fun k3=>absurd (.inl k3) k34,fun k3=>⟨fun k4=>absurd (.inr k4) k34,fun _=>?_⟩⟩
   simp only [tZ,↓un_u,simprocAttr,hwi]
   refine ⟨i + 1,by omega,by omega,?_⟩
   rw [hs]
   exact .oA [(1,some 1)] []
 ·have hil:i = m.length:=by omega
  rw [hil,List.take_length] at hsl ⊢
  generalize m.flatMap touchL = K at hsl ⊢
  obtain ⟨ys,⟨hp,hso⟩,hsc⟩:=c_slices_Sort_int K (by omega)
  have hpl:=hp.length_eq
  rw [← hpl] at hso
  have hns:cptN eqI2 ys ys.length = setI K:=cpt_ins ltI_ord ltI_tot ltI_trans eqI2_iff hp hso
  have hcm:=c_slices_Compact_int ys (by omega)
  refine C1.upd 1 1 _ _ hsc (by rfl) (by apply imXs_map;intro _;exact ⟨rfl,rfl⟩) (by apply imXs_map;intro _;exact ⟨rfl,rfl⟩) ⟨by simp [ltA,ltC,ltC0,TL.get],trivial⟩ (by rfl) ?_
  refine sW ?_
  rw [← hpl]
  refine C1.cutback 1 73732 1 [] hcm (by rfl) (by apply imXs_map;intro _;exact ⟨rfl,rfl⟩) (by apply imXs_map;intro _;exact ⟨rfl,rfl⟩) (by apply noA_map;intro _;rfl) (by rfl) ?_ (by rfl) ?_
  ·all_goals (try exact clA)
  refine sW ?_
  rw [hns]
  exact .oA [] [73732]
theorem c_refresh_Touched (es:List Edt) (a b k:Int) (hl:es.length≤12):Spc Tryz.prog F_refresh_Touched [.sl 3 (es.map edtT),vI a,vI b,vI k] [] (vIs (tkS es a b k)) []:=by
 have hT:=c_source_Touched es a b hl
 have hTl:=touchS_len es a b
 unfold tkS
 generalize touchS es a b = L at hT hTl ⊢
 refine spec_of_ir fn_refresh_Touched mixm (by simp) fun e _ hst=>W_start ?_
 unfold ir_refresh_Touched
 refine sW ?_
 refine C1.im hT (by rfl) (by rfl) ?_
 refine sW ?_
 refine W_loopF mixm (α:=Nat) [9,18] (fun i=>i≤L.length) (fun i=>[(9,.asl 1 (tkF k (L.take i)).length),(18,vI i)]) (fun i=>[(1,.arr 1 ((tkF k (L.take i)).map vI) false)]) (fun i=>L.length - i) 0 (by omega) ?_ fun i hi=>?_
 ·exact .oA [(1,none)] []
 have h6:=tkF_len k (L.take i)
 rw [List.length_take] at h6
 refine sD ?_
 refine ⟨fun h2=>?_,fun h2=>?_⟩
 ·have hi2:i < L.length:=by omega
  have hwi:=i64_succ (i:=i) (by omega)
  have hs:=tkF_succ (k:=k) hi2
  have hK:=c_pseudonym_Key k L[i]
  simp only [tZ,↓un_u,simprocAttr,Int.toNat_natCast,getD_mapT hi2]
  refine ⟨by omega,?_⟩
  refine C1.im hK (by rfl) (by rfl) ?_
  refine sD ?_
  refine ⟨fun h4=>?_,fun h4=>?_⟩
  ·rw [if_pos (by omega)] at hs
   have hspl:=congrArg List.length hs
   simp only [List.length_append,List.length_cons,List.length_nil] at hspl
   simp only [tZ,↓un_u,simprocAttr,hwi]
   refine ⟨by omega,i + 1,by omega,by omega,?_⟩
   rw [hs]
   exact .oA [(1,some 1)] []
  ·rw [if_neg (by omega),List.append_nil] at hs
   simp only [tZ,↓un_u,simprocAttr,hwi]
   refine ⟨i + 1,by omega,by omega,?_⟩
   rw [hs]
   exact .oA [(1,some 1)] []
 ·have hil:i = L.length:=by omega
  rw [hil,List.take_length] at h6 ⊢
  refine C1.cutback 1 40964 1 [] (c_refresh_set (tkF k L) (by omega)) (by rfl) (by apply imXs_map;intro _;exact ⟨rfl,rfl⟩) (by apply imXs_map;intro _;exact ⟨rfl,rfl⟩) (by apply noA_map;intro _;rfl) (by rfl) ?_ (by rfl) ?_
  ·all_goals (try exact clA)
  refine sW ?_
  exact .oA [] [40964]
end Go.Proofs
set_option linter.unusedSimpArgs false
set_option linter.unusedVariables false
namespace Go.Proofs
open Go Go.TL
set_option maxRecDepth 4000
set_option maxHeartbeats 8000000
open So
theorem hd_in {s:Sch} {r:List Int} (h:rowE s r = 0):1≤hd r∧hd r≤1048575:=by
 obtain ⟨h1,h2,h3⟩:=rowE_ok h
 have h4:=h3 0 (row_pos h)
 unfold holdsB at h4
 rw [if_pos (schE_ok h1).c0] at h4
 simp only [inB,Bool.and_eq_true,decide_eq_true_eq] at h4
 exact h4
theorem key_id {k n:Int} (hk:0≤k∧k < 1152921504606846976) (hn:0≤n∧n < 1048576):0≤keyI k n∧idI k (keyI k n) = n:=by
 have h1:rightI k n = true:=by simp [rightI];omega
 have h2:=fwd_range (s:=k) (cut_range hn) 8
 have h3:=tie_range h2
 have h4:keyI k n = tie (fwd k 8 (cut n)):=by rw [keyI,if_pos h1]
 have h5:rightI k (keyI k n) = true:=by rw [h4];simp [rightI];omega
 refine ⟨by omega,?_⟩
 rw [idI,if_pos h5,h4,cut_tie h2,bwd_fwd (cut_range hn),tie_cut]
theorem key_inj {k n m:Int} (hk:0≤k∧k < 1152921504606846976) (hn:0≤n∧n < 1048576) (hm:0≤m∧m < 1048576) (h:keyI k n = keyI k m):n = m:=by
 have h1:=(key_id hk hn).2
 have h2:=(key_id hk hm).2
 rw [← h1,← h2,h]
theorem build_mem (s:Src) (l:List Pk) (k:Int):∀ (m A:List (List Int)),AscR A→(m.Pairwise fun a b=>keyI k (hd a)≠keyI k (hd b))→(∀ r∈m,∀ x∈A,hd x≠keyI k (hd r))→
 ∀ x,x∈m.foldl (buildF s l k) A↔x∈A∨∃ r∈m,x = rowX s l k r
 | [],A,_,_,_,x=>by simp
 | r :: m,A,h1,h2,h3,x=>by
   obtain ⟨h4,h5⟩:=List.pairwise_cons.1 h2
   have hm:∀ y,y∈buildF s l k A r↔y = rowX s l k r∨y∈A:=fun y=>by
    show y∈putR A (rowX s l k r)↔_
    rw [putR_mem h1]
    constructor
    ·rintro (a | ⟨a,_⟩)
     ·exact .inl a
     ·exact .inr a
    ·rintro (a | a)
     ·exact .inl a
     ·exact .inr ⟨a,h3 r (by simp) y a⟩
   rw [List.foldl_cons,build_mem s l k m (buildF s l k A r) (putR_asc h1) h5 (fun q hq y hy=>by
    rcases (hm y).1 hy with e | hy
    ·rw [e];exact h4 q hq
    ·exact h3 q (List.mem_cons_of_mem _ hq) y hy),hm]
   constructor
   ·rintro ((a | a) | ⟨q,hq,a⟩)
    ·exact .inr ⟨r,by simp,a⟩
    ·exact .inl a
    ·exact .inr ⟨q,List.mem_cons_of_mem _ hq,a⟩
   ·rintro (a | ⟨q,hq,a⟩)
    ·exact .inl (.inr a)
    ·rcases List.mem_cons.1 hq with rfl | hq
     ·exact .inl (.inl a)
     ·exact .inr ⟨q,hq,a⟩
theorem own_mem {s:Src} {d:Dcl} (h:SrcOk s) (hd0:dclE s.sch d = 0) (r:List Int):r∈ownR s d↔r∈s.rows∧ownP s d r = true:=by
 unfold ownR
 rw [if_neg (by rw [srcB_ok.2 h,hd0];simp),List.mem_filter]
theorem own_pw {s:Src} {d:Dcl} {k:Int} (h:SrcOk s) (hk:0≤k∧k < 1152921504606846976):(ownR s d).Pairwise fun a b=>keyI k (hd a)≠keyI k (hd b):=by
 unfold ownR
 split
 ·exact List.Pairwise.nil
 ·refine List.Pairwise.filter _ ?_
  refine List.Pairwise.imp_of_mem ?_ h.asc
  intro a b ha hb hab e
  have h1:=hd_in (h.rows a ha)
  have h2:=hd_in (h.rows b hb)
  have:=key_inj hk (by omega) (by omega) e
  omega
theorem buildR_mem {s:Src} {d:Dcl} {l:List Pk} {k:Int} (h:SrcOk s) (hd0:dclE s.sch d = 0) (hk:0≤k∧k < 1152921504606846976) (x:List Int) :
 x∈buildR s d l k↔∃ r∈s.rows,ownP s d r = true∧x = rowX s l k r:=by
 unfold buildR
 rw [build_mem s l k _ [] List.Pairwise.nil (own_pw h hk) (by simp)]
 constructor
 ·rintro (a | ⟨r,hr,e⟩)
  ·simp at a
  ·obtain ⟨h1,h2⟩:=(own_mem h hd0 r).1 hr
   exact ⟨r,h1,h2,e⟩
 ·rintro ⟨r,h1,h2,e⟩
  exact .inr ⟨r,(own_mem h hd0 r).2 ⟨h1,h2⟩,e⟩
theorem apply_same {s:Src} {e:Edt} (h:SrcOk s) (he:applyE s e = 0) {r:List Int} (hr:hd r∉touchL e):r∈(applyS s e).rows↔r∈s.rows:=by
 rw [applyS,if_neg (by rw [he];simp)]
 show r∈applyR s e↔_
 unfold applyR
 split
 ·rename_i k
  have h0:0 < e.row.length:=by
   unfold applyE at he
   rw [if_neg (by rw [srcB_ok.2 h];split at he <;> simp_all),if_pos k] at he
   split at he
   ·rename_i h1;exact absurd he h1
   ·rename_i h1;exact row_pos (Classical.byContradiction h1)
  have h1:touchL e = [hd e.row]:=by rw [touchL,if_pos k,if_pos h0]
  rw [h1,List.mem_singleton] at hr
  rw [putR_mem h.asc]
  constructor
  ·rintro (a | ⟨a,_⟩)
   ·rw [a] at hr;exact absurd rfl hr
   ·exact a
  ·exact fun a=>.inr ⟨a,hr⟩
 ·rename_i k
  have h1:touchL e = [e.id]:=by
   unfold applyE at he
   by_cases k3:e.kind = 3∨e.kind = 4
   ·rw [touchL,if_neg k,if_pos k3]
   ·split at he
    ·cases he
    ·rw [if_neg (fun a=>k3 (.inl a)),if_neg (fun a=>k3 (.inr a))] at he
     cases he
  rw [h1,List.mem_singleton] at hr
  unfold dropR
  rw [List.mem_filter]
  simp [hr]
theorem at_same:∀ {es:List Edt} {s:Src},SrcOk s→(s.gone.length:Int)≤s.ver→(atS s es).2 = 0→∀ {r:List Int},hd r∉es.flatMap touchL→(r∈(atS s es).1.rows↔r∈s.rows)
 | [],s,_,_,_,r,_=>Iff.rfl
 | e :: es,s,h,hg,he,r,hr=>by
   unfold atS at he ⊢
   split
   ·rename_i h1;rw [if_pos h1] at he;exact absurd he h1
   ·rename_i h1
    rw [if_neg h1] at he
    have h1:applyE s e = 0:=Classical.byContradiction h1
    obtain ⟨a,b⟩:=apply_ok h hg h1
    rw [List.flatMap_cons,List.mem_append,not_or] at hr
    rw [at_same a b he hr.2,apply_same h h1 hr.1]
theorem two_keys {s:Src} {es:List Edt} (hX:DrX s) (he:(atS s es).2 = 0) (d:Dcl) (l:List Pk) {k:Int} (hk:0≤k∧k < 1152921504606846976) :
 ∀ x∈keysL (diffC (buildX s d l k) (buildX (atS s es).1 d l k)),∃ p∈es.flatMap touchL,x = keyI k p∧1≤p∧p≤1048575:=by
 obtain ⟨o1,o2,o3⟩:=atS_ok hX.ok (by rw [hX.gone,hX.ver];simp) he
 have ho:=hX.ok
 have hsame:=fun (r:List Int)=>at_same (es:=es) ho (by rw [hX.gone,hX.ver];simp) he (r:=r)
 generalize (atS s es).1 = y at o1 o2 o3 hsame
 have hb:buildE y d l k = buildE s d l k:=by
  unfold buildE
  rw [srcB_ok.2 ho,srcB_ok.2 o1,o3]
 intro x hx
 unfold diffC at hx
 split at hx
 ·simp [keysL] at hx
 ·unfold buildX at hx
  rw [hb] at hx
  by_cases hE:buildE s d l k≠0
  ·rw [if_pos hE,if_pos hE] at hx
   simp [keysL,diffG,diffR] at hx
  ·rw [if_neg hE,if_neg hE] at hx
   have hE:buildE s d l k = 0:=Classical.byContradiction hE
   have hd0:dclE s.sch d = 0:=by
    unfold buildE at hE
    rw [srcB_ok.2 ho,if_neg (by simp)] at hE
    split at hE
    ·rename_i h1;exact absurd hE h1
    ·rename_i h1;exact (chk10_ok (Classical.byContradiction h1)).1
   have mA:=fun x=>buildR_mem (l:=l) ho hd0 hk x
   have mB:=fun x=>buildR_mem (d:=d) (l:=l) o1 (by rw [o3];exact hd0) hk x
   have hrow:∀ r,rowX y l k r = rowX s l k r:=fun r=>by unfold rowX;rw [o3]
   have hown:∀ r,ownP y d r = ownP s d r:=fun r=>by unfold ownP;rw [o3]
   have hAa:=(ordB_ok.1 (build_ok ho o1 o3 d l k (Nat.le_refl 800 |> fun _=>by
    have:=picks_len (chk10_ok (s:=s.sch) (d:=d) (l:=l) (by
     unfold buildE at hE
     rw [srcB_ok.2 ho,if_neg (by simp)] at hE
     split at hE
     ·rename_i h1;exact absurd hE h1
     ·rename_i h1;exact Classical.byContradiction h1)).2
    omega)).oa.ord).2
   rw [buildX,if_neg (by rw [hE];simp)] at hAa
   dsimp only at hx hAa
   generalize buildR s d l k = A at hx mA hAa
   generalize buildR y d l k = B at hx mB
   simp only [keysL,List.mem_append,List.mem_map,List.mem_filter,diffG,diffR] at hx
   rcases hx with ⟨q,⟨hq,hn⟩,rfl⟩ | ⟨q,⟨⟨hq,hn⟩,_⟩,rfl⟩
   ·obtain ⟨r,hr,hp,rfl⟩:=(mA q).1 hq
    have hi:=hd_in (ho.rows r hr)
    refine ⟨hd r,Classical.byContradiction fun hne=>?_,rfl,hi.1,hi.2⟩
    have h1:=(hsame r hne).2 hr
    have h2:=(mB (rowX s l k r)).2 ⟨r,h1,by rw [hown];exact hp,(hrow r).symm⟩
    have h3:hasK B (hd (rowX s l k r)) = true:=List.any_eq_true.2 ⟨_,h2,by simp⟩
    rw [h3] at hn
    simp at hn
   ·obtain ⟨r,hr,hp,rfl⟩:=(mB q).1 hq
    have hi:=hd_in (o1.rows r hr)
    refine ⟨hd r,Classical.byContradiction fun hne=>?_,rfl,hi.1,hi.2⟩
    have h1:=(hsame r hne).1 hr
    have h2:=(mA (rowX y l k r)).2 ⟨r,h1,by rw [← hown];exact hp,hrow r⟩
    rw [(rowK_some hAa).2 h2] at hn
    simp at hn
theorem nodup_len:∀ {l m:List Int},(l.Pairwise fun a b=>a≠b)→(∀ x∈l,x∈m)→l.length≤m.length
 | [],m,_,_=>by simp
 | x :: l,m,h,hs=>by
   obtain ⟨h1,h2⟩:=List.pairwise_cons.1 h
   have hx:=hs x (by simp)
   have:=nodup_len (m:=m.erase x) h2 fun y hy=>(List.mem_erase_of_ne fun e=>h1 y hy e.symm).2 (hs y (List.mem_cons_of_mem _ hy))
   rw [List.length_erase_of_mem hx] at this
   have:=List.length_pos_of_mem hx
   rw [List.length_cons]
   omega
end Go.Proofs
set_option linter.unusedSimpArgs false
set_option linter.unusedVariables false
namespace Go.Proofs
open Go Go.TL
set_option maxRecDepth 4000
set_option maxHeartbeats 8000000
open So
end Go.Proofs
set_option linter.unusedSimpArgs false
set_option linter.unusedVariables false
namespace Go.Proofs
open Go Go.TL
set_option maxRecDepth 4000
set_option maxHeartbeats 8000000
open So
theorem pw_ne_lt {l:List Int} (h:l.Pairwise fun a b=>a < b):l.Pairwise fun a b=>a≠b:=h.imp fun k e=>by omega
theorem two_small {s:Src} {es:List Edt} (hX:DrX s) (he:(atS s es).2 = 0) (d:Dcl) (l:List Pk) {k:Int} (hk:0≤k∧k < 1152921504606846976) (hpl:l.length≤800) (hes:es.length≤6) :
 (diffC (buildX s d l k) (buildX (atS s es).1 d l k)).gone.length + (diffC (buildX s d l k) (buildX (atS s es).1 d l k)).rows.length≤12:=by
 have hK:=two_keys hX he d l hk
 have h:=two_of hX he d l k hpl
 generalize buildX s d l k = a at hK h
 generalize buildX (atS s es).1 d l k = b at hK h
 obtain ⟨p1,_⟩:=two_step h
 have hc:diffC a b = ⟨b.ver,diffG a.rows b.rows,diffR a.rows b.rows⟩:=by rw [diffC,if_neg (by rw [p1];simp)]
 rw [hc] at hK ⊢
 dsimp only at hK ⊢
 have hA:=ordB_ok.1 h.oa.ord
 have hB:=ordB_ok.1 h.ob.ord
 have hm:∀ x∈keysL ⟨b.ver,diffG a.rows b.rows,diffR a.rows b.rows⟩,x∈(es.flatMap touchL).map (keyI k):=fun x hx=>by
  obtain ⟨p,h1,h2,_⟩:=hK x hx
  exact List.mem_map.2 ⟨p,h1,h2.symm⟩
 have h6:=seg_len es
 have g1:(diffG a.rows b.rows).length≤((es.flatMap touchL).map (keyI k)).length:=nodup_len (pw_ne_lt (diffG_asc hA.2)) fun x hx=>hm x (List.mem_append.2 (.inl hx))
 have g2:((diffR a.rows b.rows).map hd).length≤((es.flatMap touchL).map (keyI k)).length:=by
  refine nodup_len ?_ fun x hx=>hm x (List.mem_append.2 (.inr ?_))
  ·rw [List.pairwise_map]
   exact (hB.2.filter _).imp fun h e=>by omega
  ·obtain ⟨r,hr,rfl⟩:=List.mem_map.1 hx
   refine List.mem_map.2 ⟨r,List.mem_filter.2 ⟨hr,?_⟩,rfl⟩
   exact decide_eq_true (hB.1 r (List.mem_filter.1 hr).1)
 rw [List.length_map] at g1 g2
 rw [List.length_map] at g2
 omega
theorem tk_mem {es:List Edt} {k x:Int}:x∈tkS es 0 es.length k↔∃ p∈es.flatMap touchL,x = keyI k p∧0≤keyI k p:=by
 unfold tkS tkF touchS
 rw [if_neg (by omega),setI_mem,List.mem_filter,List.mem_map]
 have e:segL es (0:Int).toNat (es.length:Int).toNat = es.flatMap touchL:=by
  unfold segL
  simp
 rw [e]
 constructor
 ·rintro ⟨⟨p,hp,rfl⟩,h⟩
  exact ⟨p,setI_mem.1 hp,rfl,of_decide_eq_true h⟩
 ·rintro ⟨p,hp,rfl,h⟩
  exact ⟨⟨p,setI_mem.2 hp,rfl⟩,decide_eq_true h⟩
theorem c_law14_RefreshTouches (l:List UInt8) (dep:List Int) (hd1:dep.length < 4611686018427387904):Spc Tryz.prog F_law14_RefreshTouches [vL l,vIs dep] [] (vB true) []:=by
 obtain ⟨s,d,pl,es,k,⟨hX,he,hes,_,hk1,hk2,hpl⟩,sT⟩:=x_two l
 have h0:=two_of hX he d pl k hpl
 have hsm:=two_small hX he d pl ⟨hk1,hk2⟩ hpl hes
 have hKy:=two_keys hX he d pl ⟨hk1,hk2⟩
 generalize buildX s d pl k = a at sT h0 hsm hKy
 generalize buildX (atS s es).1 d pl k = b at sT h0 hsm hKy
 obtain ⟨p1,p2,p3,p4⟩:=two_step h0
 have zD:=c_refresh_Diff a b h0.sa h0.sb
 rw [p1] at zD
 have hT:=fun x=>tk_mem (es:=es) (k:=k) (x:=x)
 have sTo:=c_refresh_Touched es 0 es.length k (by omega)
 have hTl:(tkS es 0 es.length k).length < 4611686018427387904:=by
  have h1:=touchS_len es 0 es.length
  have h2:=tkF_len k (touchS es 0 es.length)
  have h3:=set_len (tkF k (touchS es 0 es.length))
  unfold tkS
  omega
 have sK:=c_refresh_Keys (diffC a b) hsm
 have sE:=c_refresh_Stale (diffC a b) dep hsm hd1
 have hkl:=keys_len (diffC a b)
 have hsl:=set_len (keysL (diffC a b))
 have hin:∀ x∈setI (keysL (diffC a b)),(tkS es 0 es.length k).contains x = true∧1≤idI k x:=fun x hx=>by
  obtain ⟨p,q1,q2,q3,q4⟩:=hKy x (setI_mem.1 hx)
  have q5:=key_id (k:=k) (n:=p) ⟨hk1,hk2⟩ ⟨by omega,by omega⟩
  refine ⟨List.contains_iff_mem.2 ((hT x).2 ⟨p,q1,q2,q5.1⟩),?_⟩
  rw [q2,q5.2]
  exact q3
 have hstale:staleC (diffC a b) dep = true→(dep.any fun x=>(tkS es 0 es.length k).contains x) = true:=fun h=>by
  unfold staleC at h
  obtain ⟨x,h1,h2⟩:=List.any_eq_true.1 h
  exact List.any_eq_true.2 ⟨x,h1,(hin x (List.contains_iff_mem.1 h2)).1⟩
 generalize tkS es 0 es.length k = K at sTo hTl hin hstale
 generalize hD:setI (keysL (diffC a b)) = D at sK hsl hin
 generalize staleC (diffC a b) dep = E at sE hstale
 generalize diffC a b = C at *
 refine spec_of_ir fn_law14_RefreshTouches mixm (by simp) fun e _ hst=>W_start ?_
 unfold ir_law14_RefreshTouches
 refine sW ?_
 refine sD ?_
 refine ⟨fun h2=>?_,fun h2=>?_⟩
 ·refine C1.im c_law14_awake (by rfl) (by rfl) ?_
  refine sW ?_
  exact .oA [] []
 refine C1.im sT (by rfl) (by rfl) ?_
 refine sW ?_
 refine C1.im zD (by rfl) (by rfl) ?_
 refine sW ?_
 refine C1.im sTo (by rfl) (by rfl) ?_
 refine sW ?_
 refine C1.im sK (by rfl) (by rfl) ?_
 refine sW ?_
 refine W_loopF mixm (α:=Nat) [44] (fun i=>i≤D.length) (fun i=>[(44,vI i)]) (fun i=>[(20504,.arr 3 [chgT C] false)]) (fun i=>D.length - i) 0 (by omega) ?_ fun i hi=>?_
 ·exact .oA [(20504,some 20504)] []
 refine sD ?_
 refine ⟨fun h2=>?_,fun h2=>?_⟩
 ·have hi2:i < D.length:=by omega
  have hwi:=i64_succ (i:=i) (by omega)
  obtain ⟨m1,m2⟩:=hin D[i] (List.getElem_mem hi2)
  have hH:=c_ref01_Has K D[i] hTl
  rw [m1] at hH
  have hI:=c_ref12_Id k D[i]
  simp only [tZ,↓un_u,simprocAttr,Int.toNat_natCast,getD_mapT hi2]
  refine ⟨by omega,?_⟩
  refine C1.im hH (by rfl) (by rfl) ?_
  refine sW ?_
  refine C2.im (fun _=>hI) (fun _=>rfl) (by rfl) ?_
  refine sD ?_
  refine ⟨fun h3=>by omega,fun h3=>?_⟩
  simp only [tZ,↓un_u,simprocAttr,hwi]
  refine ⟨i + 1,by omega,by omega,?_⟩
  exact .oA [(20504,some 20504)] []
 refine W_loopF mixm (α:=Nat) [14,61] (fun i=>i≤dep.length) (fun i=>[(14,vB ((dep.take i).any fun x=>K.contains x)),(61,vI i)]) (fun i=>[(20504,.arr 3 [chgT C] false)]) (fun i=>dep.length - i) 0 (by omega) ?_ fun i hi=>?_
 ·exact .oA [(20504,some 20504)] []
 refine sD ?_
 refine ⟨fun h2=>?_,fun h2=>?_⟩
 ·have hi2:i < dep.length:=by omega
  have hwi:=i64_succ (i:=i) (by omega)
  have hH:=c_ref01_Has K dep[i] hTl
  have hs:((dep.take (i + 1)).any fun x=>K.contains x) = (((dep.take i).any fun x=>K.contains x) || K.contains dep[i]):=by
   rw [take_snoc hi2,List.any_append,List.any_cons,List.any_nil,Bool.or_false]
  simp only [tZ,↓un_u,simprocAttr,Int.toNat_natCast,getD_mapT hi2]
  refine ⟨by omega,?_⟩
  refine C2.im (fun _=>hH) (fun _=>rfl) (by rfl) ?_
  simp only [tZ,↓un_u,simprocAttr,hwi]
  refine ⟨i + 1,by omega,by omega,?_⟩
  rw [hs]
  exact .oA [(20504,some 20504)] []
 have hil:i = dep.length:=by omega
 subst hil
 rw [List.take_length]
 refine C1.im sE (by rfl) (by rfl) ?_
 refine sW ?_
 have hor:(!E || dep.any fun x=>K.contains x) = true:=by
  cases hE:E with
  | false=>rfl
  | true=>rw [hstale hE];rfl
 refine C2.im (fun _=>c_law14_awake) (fun _=>rfl) (by rfl) ?_
 simp only [tZ,↓un_u,simprocAttr,hor]
 exact .oA [] []
end Go.Proofs
