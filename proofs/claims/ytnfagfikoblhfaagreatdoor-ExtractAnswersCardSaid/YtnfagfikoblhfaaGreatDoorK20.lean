/- A part of the proof: trees of Go values, short forms, contracts. -/
import Derived.WalkKit
import Derived.Still
import Derived.MapKept
import GoSem.Builtin.Cap
import Derived.Laws.Externs
import GoSem.Extern.SlicesOverlaps
import Derived.Carry
import Derived.ProofKit
import Derived.OpenShut
import Derived.HandedShaped
import Derived.Lay
import Derived.LaidLaws
import Derived.MakeChecks
import Derived.SevenTiedAt
import Derived.Test.YtnfagfikoblhfaaGreatDoorChecked
import Derived.Test.YtnfagfikoblhfaaGreatDoorK19
set_option linter.unusedSimpArgs false
set_option linter.unusedVariables false
namespace Go.Proofs
open Go Go.TL
set_option maxRecDepth 4000
set_option maxHeartbeats 8000000
theorem nm_p:∀ n:Nat,n<10→jq ⟨#[112,dgt n]⟩=true∧jq ⟨#[113,dgt n]⟩=true:=by
 have:∀ n:Fin 10,jq ⟨#[112,dgt n.1]⟩=true∧jq ⟨#[113,dgt n.1]⟩=true:=by decide +kernel
 exact fun n h=>this ⟨n,h⟩
theorem kj0:∀ i j:Nat,i<10→j<10→i≠j→eqB ⟨#[113,dgt i]⟩ ⟨#[113,dgt j]⟩=false:=by
 have:∀ i j:Fin 10,i.1≠j.1→eqB ⟨#[113,dgt i.1]⟩ ⟨#[113,dgt j.1]⟩=false:=by decide +kernel
 exact fun i j hi hj h=>this ⟨i,hi⟩ ⟨j,hj⟩ h
def qV4:ByteArray:=⟨#[115,114,99]⟩
theorem kj1:jq qV4=true:=by decide +kernel
abbrev dcl0:Dcl:=⟨⟨#[]⟩,⟨#[]⟩,cnd0,⟨0,0,0⟩,[]⟩
theorem kj2 {s:Sch} {P:Nat} {c:Cnd} {x:Smp} {qs:List Qst} {N:Nat} (hE:schE s=0) (hP:P<10) (hc:chkC s c=0) (hx:smpE x=0) (h1:1≤qs.length) (hN:qs.length=N) (hN3:N≤3) (hq:∀ i (h:i<qs.length),qstE s qs[i]=0∧qs[i].name=⟨#[113,dgt (N-i)]⟩) :
 dclE s ⟨⟨#[112,dgt P]⟩,qV4,c,x,qs⟩=0:=by
 rw[dclE,Aq (by rw[hE];simp),Aq (by rw[(nm_p P hP).1,kj1];simp),Aq (by rw[hc];simp),Aq (by rw[hx];simp),Aq (by dsimp only;omega)];refine Wp fun i hi=>?_;have hi:i<qs.length:=hi;have hpi:qAt qs i=qs[i]:=by rw[qAt,qg hi]
 obtain⟨a,b⟩:=hq i hi;rw[qsE,hpi,Aq (by rw[a];simp),Aq];intro k;obtain⟨x,hx,e⟩:=DJ.1 k;obtain⟨j,hj,rfl⟩:=List.mem_take_iff_getElem.1 hx;have hj2:j<i∧j<qs.length:=by have:j<min i qs.length:=hj;omega
 rw[b,(hq j (by omega)).2,kj0 (N-j) (N-i) (by omega) (by omega) (by omega)] at e;cases e
structure DrD (s:Sch) (d:Dcl):Prop where
 len:d.qs.length≤3
 nm:∀ q∈d.qs,∃ n,n<10∧q.name=⟨#[113,dgt n]⟩
 coh:CndOk s 1 d.coh
theorem zC2 {s:Sch} {P:Nat} {c:Cnd} {x:Smp} {qs:List Qst} {N:Nat} (hE:schE s=0) (hP:P<10) (hco:CndOk s 1 c) (hc:chkC s c=0) (hx:smpE x=0) (h1:1≤qs.length) (hN:qs.length=N) (hN3:N≤3) (hq:∀ i (h:i<qs.length),qstE s qs[i]=0∧qs[i].name=⟨#[113,dgt (N-i)]⟩) :
 dclE s ⟨⟨#[112,dgt P]⟩,qV4,c,x,qs⟩=0∧DrD s ⟨⟨#[112,dgt P]⟩,qV4,c,x,qs⟩:=
 ⟨kj2 hE hP hc hx h1 hN hN3 hq,by dsimp only;omega,fun q hq2=>by
   obtain⟨i,hi,rfl⟩:=CX hq2;exact⟨N-i,by omega,(hq i hi).2⟩,hco⟩
theorem YN (s:Sch) (hd:DrS s) (l:List UInt8) (a:Nat) (hl:l.length≤400) (ha:a≤l.length) :
 ∃ r:Dcl×Nat,((dclE s r.1=0∧DrD s r.1)∧r.2≤l.length)∧Spc Tryz.prog zq [.ptr 0 1 0 0,schT s] [(0,oC l a)] (dclT r.1) [(0,oC l r.2)]:=by
 have hE:=hd.ok;have hok:=qO hE;obtain⟨p,a1,p1,p2,ha1,sP⟩:=yu l a 3 hl ha (by omega);obtain⟨P,rfl⟩:=AJ p1;have hIt:=qG8 P (by omega);obtain⟨⟨c0,a2⟩,⟨hc0,ha2⟩,sC⟩:=ZU s hd l hl 1 a1 ha1 (by omega);dsimp only at hc0 ha2 sC;have hcf0:=hc0.chk hE (by omega);have hca:chkC s (.mk 1 0 0 0 0 [])=0:=(yZ (s:=s) 1 (zg6 s) rfl).chk hE (by omega);obtain⟨sd,a3,sd1,sd2,ha3,sS⟩:=yu l a2 999 hl ha2 (by omega);obtain⟨o1,a4,ha4,sO⟩:=jE5 l a3 3 hl ha3 (by omega);obtain⟨o2,a5,ha5,sO2⟩:=jE5 l a4 3 hl ha4 (by omega);obtain⟨f,a6,f1,f2,ha6,sF⟩:=YL l a5 2 5 hl ha5 (by omega) (by omega);obtain⟨g,a7,g1,g2,ha7,sG⟩:=YL l a6 1 f hl ha6 (by omega) (by omega);obtain⟨ra,ba,ra1,ra2,hba,sRa⟩:=YL l a5 1 3 hl ha5 (by omega) (by omega);obtain⟨Na,rfl⟩:=AJ (show 0≤ra by omega);obtain⟨rb,bb,rb1,rb2,hbb,sRb⟩:=YL l a7 1 3 hl ha7 (by omega) (by omega);obtain⟨Nb,rfl⟩:=AJ (show 0≤rb by omega);refine jd WY mixm (fun r:Dcl×Nat=>dclT r.1) (fun r=>[(0,oC l r.2)]) (by simp) ?_;unfold jM;refine sW ?_;refine XE.mp (fun _ _=>C1.draw 0 l a _ sP rfl rfl rfl) ?_;refine sW ?_;refine XE.mp (fun _ _=>C1.im hIt (by rfl) (by rfl)) ?_;simp only[tZ,↓un_u,simprocAttr,qG7];refine XE.sd (show 1+1≤9223372036854775807 by omega) ?_;refine XE.mp (fun _ _=>C1.draw 0 l a1 _ sC rfl rfl rfl) ?_;refine sW ?_;refine XE.mp (fun _ _=>C1.draw 0 l a2 _ sS rfl rfl rfl) ?_;refine sW ?_;refine XE.sd (by kernel_rfl) ?_;refine XE.mp (fun _ _=>C1.draw 0 l a3 _ sO rfl rfl rfl) ?_;refine sW ?_;apply XE.brB
 ·intro h1;refine XE.mp (fun _ _=>C1.draw 0 l a4 _ sO2 rfl rfl rfl) ?_;refine sW ?_;apply XE.brB
  focus
   intro h2;refine XE.mp (fun _ _=>C1.draw 0 l a5 _ sF rfl rfl rfl) ?_;refine sW ?_;refine XE.mp (fun _ _=>C1.draw 0 l a6 _ sG rfl rfl rfl) ?_;refine sW ?_;refine XE.mp (fun _ _=>C1.draw 0 l a7 _ (sRb) rfl rfl rfl) ?_;refine sW ?_;refine XE.loopF mixm [6,19,23] (fun y:List Qst×Nat=>y.1.length≤Nb∧(∀ i (h:i<y.1.length),qstE s y.1[i]=0∧y.1[i].name=⟨#[113,dgt (Nb-i)]⟩)∧y.2≤l.length) (fun y=>[(6,vI ((Nb-y.1.length:Nat):Int))]) (fun y=>[(0,oC l y.2),(4096,.arr 2 [schT s] false),(4100,.arr 12 [dclT dcl0] false),(8236,.arr 12 [.agg [vS ⟨#[112,dgt P]⟩,vS qV4,vI ((.mk 1 0 0 0 0 []):Cnd).op,vI ((.mk 1 0 0 0 0 []):Cnd).col,vI ((.mk 1 0 0 0 0 []):Cnd).code,vI ((.mk 1 0 0 0 0 []):Cnd).lo,vI ((.mk 1 0 0 0 0 []):Cnd).hi,vCs ((.mk 1 0 0 0 0 []):Cnd).kids,vI g,vI f,vI sd,.asl 1 y.1.length]] false),(1,.arr 17 (y.1.map qstT) false)]) (fun y=>Nb-y.1.length) ([],bb) ⟨by simp,fun i h=>by simp at h,hbb⟩ (fun e ⟨_,hst⟩=>?_) fun T' y hy ih=>?_
   ·exact .oA [(0,some 0),(4096,some 4096),(4100,some 4100),(8236,some 8236),(1,none)] []
   obtain⟨qs,a8⟩:=y;obtain⟨y1,y2,y3⟩:=hy;dsimp only at y1 y2 y3;simp only[tZ,↓un_u,simprocAttr,AZ,Ay];refine XE.brN (fun h4=>?_) (fun h4=>?_)
   ·have hlt:qs.length<Nb:=by omega
    have hI:=qG8 (Nb-qs.length) (by omega);obtain⟨⟨q,a9⟩,⟨⟨hq,hqn⟩,ha9⟩,sQ⟩:=jH s hd ⟨#[113,dgt (Nb-qs.length)]⟩ (nm_p _ (by omega)).2 l a8 hl y3;dsimp only at hq hqn ha9 sQ;have hwk:=kg (i:=Nb-qs.length) (by omega) (by omega);refine XE.mp (fun _ _=>C1.im hI (by rfl) (by rfl)) ?_;simp only[tZ,↓un_u,simprocAttr,qG7];refine XE.sd (show 1+1≤9223372036854775807 by omega) ?_;refine XE.mp (fun _ _=>C1.draw 0 l a8 _ sQ rfl rfl rfl) ?_;simp only[tZ,↓un_u,simprocAttr,hwk];refine XE.sd (by omega) (XE.sd (by kernel_rfl) ?_);refine XE.next ih (qs++[q],a9) ⟨by simp;omega,fun i h=>?_,ha9⟩ (by simp;omega) fun e ⟨_,hst⟩=>?_
    ·dsimp only at h ⊢
     by_cases hi:i<qs.length
     ·rw[List.getElem_append_left hi];exact y2 i hi
     ·have he:i=qs.length:=by rw[AW] at h;simp at h;omega
      subst he;rw[List.getElem_append_right (BZ _)];simpa using Az hq hqn
    ·have e1:Nb-(qs++[q]).length=Nb-qs.length-1:=by rw[AW];simp;omega
     simp only[e1];exact .oA [(0,some 0),(4096,some 4096),(4100,some 4100),(8236,some 8236),(1,some 1)] []
   ·refine XE.fin (⟨⟨#[112,dgt P]⟩,qV4,(.mk 1 0 0 0 0 []),⟨g,f,sd⟩,qs⟩,a8) ⟨zC2 hE (by omega) (yZ (s:=s) 1 (zg6 s) rfl) hca (by rw[smpE,Aq];dsimp only;omega) (by omega) rfl (by omega) (fun i h=>by have:=y2 i h;rwa [show Nb=qs.length by omega] at this),y3⟩ fun e ⟨_,hst⟩=>?_;exact .oA [(0,some 0)] [1]
  focus
   intro h2;refine XE.mp (fun _ _=>C1.draw 0 l a5 _ (sRa) rfl rfl rfl) ?_;refine sW ?_;refine XE.loopF mixm [6,19,23] (fun y:List Qst×Nat=>y.1.length≤Na∧(∀ i (h:i<y.1.length),qstE s y.1[i]=0∧y.1[i].name=⟨#[113,dgt (Na-i)]⟩)∧y.2≤l.length) (fun y=>[(6,vI ((Na-y.1.length:Nat):Int))]) (fun y=>[(0,oC l y.2),(4096,.arr 2 [schT s] false),(4100,.arr 12 [dclT dcl0] false),(8236,.arr 12 [.agg [vS ⟨#[112,dgt P]⟩,vS qV4,vI ((.mk 1 0 0 0 0 []):Cnd).op,vI ((.mk 1 0 0 0 0 []):Cnd).col,vI ((.mk 1 0 0 0 0 []):Cnd).code,vI ((.mk 1 0 0 0 0 []):Cnd).lo,vI ((.mk 1 0 0 0 0 []):Cnd).hi,vCs ((.mk 1 0 0 0 0 []):Cnd).kids,vI 1,vI 1,vI sd,.asl 1 y.1.length]] false),(1,.arr 17 (y.1.map qstT) false)]) (fun y=>Na-y.1.length) ([],ba) ⟨by simp,fun i h=>by simp at h,hba⟩ (fun e ⟨_,hst⟩=>?_) fun T' y hy ih=>?_
   ·exact .oA [(0,some 0),(4096,some 4096),(4100,some 4100),(8236,some 8236),(1,none)] []
   obtain⟨qs,a8⟩:=y;obtain⟨y1,y2,y3⟩:=hy;dsimp only at y1 y2 y3;simp only[tZ,↓un_u,simprocAttr,AZ,Ay];refine XE.brN (fun h4=>?_) (fun h4=>?_)
   ·have hlt:qs.length<Na:=by omega
    have hI:=qG8 (Na-qs.length) (by omega);obtain⟨⟨q,a9⟩,⟨⟨hq,hqn⟩,ha9⟩,sQ⟩:=jH s hd ⟨#[113,dgt (Na-qs.length)]⟩ (nm_p _ (by omega)).2 l a8 hl y3;dsimp only at hq hqn ha9 sQ;have hwk:=kg (i:=Na-qs.length) (by omega) (by omega);refine XE.mp (fun _ _=>C1.im hI (by rfl) (by rfl)) ?_;simp only[tZ,↓un_u,simprocAttr,qG7];refine XE.sd (show 1+1≤9223372036854775807 by omega) ?_;refine XE.mp (fun _ _=>C1.draw 0 l a8 _ sQ rfl rfl rfl) ?_;simp only[tZ,↓un_u,simprocAttr,hwk];refine XE.sd (by omega) (XE.sd (by kernel_rfl) ?_);refine XE.next ih (qs++[q],a9) ⟨by simp;omega,fun i h=>?_,ha9⟩ (by simp;omega) fun e ⟨_,hst⟩=>?_
    ·dsimp only at h ⊢
     by_cases hi:i<qs.length
     ·rw[List.getElem_append_left hi];exact y2 i hi
     ·have he:i=qs.length:=by rw[AW] at h;simp at h;omega
      subst he;rw[List.getElem_append_right (BZ _)];simpa using Az hq hqn
    ·have e1:Na-(qs++[q]).length=Na-qs.length-1:=by rw[AW];simp;omega
     simp only[e1];exact .oA [(0,some 0),(4096,some 4096),(4100,some 4100),(8236,some 8236),(1,some 1)] []
   ·refine XE.fin (⟨⟨#[112,dgt P]⟩,qV4,(.mk 1 0 0 0 0 []),⟨1,1,sd⟩,qs⟩,a8) ⟨zC2 hE (by omega) (yZ (s:=s) 1 (zg6 s) rfl) hca (by rw[smpE,Aq];dsimp only;omega) (by omega) rfl (by omega) (fun i h=>by have:=y2 i h;rwa [show Na=qs.length by omega] at this),y3⟩ fun e ⟨_,hst⟩=>?_;exact .oA [(0,some 0)] [1]
 ·intro h1;refine XE.mp (fun _ _=>C1.draw 0 l a4 _ sO2 rfl rfl rfl) ?_;refine sW ?_;apply XE.brB
  focus
   intro h2;refine XE.mp (fun _ _=>C1.draw 0 l a5 _ sF rfl rfl rfl) ?_;refine sW ?_;refine XE.mp (fun _ _=>C1.draw 0 l a6 _ sG rfl rfl rfl) ?_;refine sW ?_;refine XE.mp (fun _ _=>C1.draw 0 l a7 _ (sRb) rfl rfl rfl) ?_;refine sW ?_;refine XE.loopF mixm [6,19,23] (fun y:List Qst×Nat=>y.1.length≤Nb∧(∀ i (h:i<y.1.length),qstE s y.1[i]=0∧y.1[i].name=⟨#[113,dgt (Nb-i)]⟩)∧y.2≤l.length) (fun y=>[(6,vI ((Nb-y.1.length:Nat):Int))]) (fun y=>[(0,oC l y.2),(4096,.arr 2 [schT s] false),(4100,.arr 12 [dclT dcl0] false),(8236,.arr 12 [.agg [vS ⟨#[112,dgt P]⟩,vS qV4,vI (c0:Cnd).op,vI (c0:Cnd).col,vI (c0:Cnd).code,vI (c0:Cnd).lo,vI (c0:Cnd).hi,vCs (c0:Cnd).kids,vI g,vI f,vI sd,.asl 1 y.1.length]] false),(1,.arr 17 (y.1.map qstT) false)]) (fun y=>Nb-y.1.length) ([],bb) ⟨by simp,fun i h=>by simp at h,hbb⟩ (fun e ⟨_,hst⟩=>?_) fun T' y hy ih=>?_
   ·exact .oA [(0,some 0),(4096,some 4096),(4100,some 4100),(8236,some 8236),(1,none)] []
   obtain⟨qs,a8⟩:=y;obtain⟨y1,y2,y3⟩:=hy;dsimp only at y1 y2 y3;simp only[tZ,↓un_u,simprocAttr,AZ,Ay];refine XE.brN (fun h4=>?_) (fun h4=>?_)
   ·have hlt:qs.length<Nb:=by omega
    have hI:=qG8 (Nb-qs.length) (by omega);obtain⟨⟨q,a9⟩,⟨⟨hq,hqn⟩,ha9⟩,sQ⟩:=jH s hd ⟨#[113,dgt (Nb-qs.length)]⟩ (nm_p _ (by omega)).2 l a8 hl y3;dsimp only at hq hqn ha9 sQ;have hwk:=kg (i:=Nb-qs.length) (by omega) (by omega);refine XE.mp (fun _ _=>C1.im hI (by rfl) (by rfl)) ?_;simp only[tZ,↓un_u,simprocAttr,qG7];refine XE.sd (show 1+1≤9223372036854775807 by omega) ?_;refine XE.mp (fun _ _=>C1.draw 0 l a8 _ sQ rfl rfl rfl) ?_;simp only[tZ,↓un_u,simprocAttr,hwk];refine XE.sd (by omega) (XE.sd (by kernel_rfl) ?_);refine XE.next ih (qs++[q],a9) ⟨by simp;omega,fun i h=>?_,ha9⟩ (by simp;omega) fun e ⟨_,hst⟩=>?_
    ·dsimp only at h ⊢
     by_cases hi:i<qs.length
     ·rw[List.getElem_append_left hi];exact y2 i hi
     ·have he:i=qs.length:=by rw[AW] at h;simp at h;omega
      subst he;rw[List.getElem_append_right (BZ _)];simpa using Az hq hqn
    ·have e1:Nb-(qs++[q]).length=Nb-qs.length-1:=by rw[AW];simp;omega
     simp only[e1];exact .oA [(0,some 0),(4096,some 4096),(4100,some 4100),(8236,some 8236),(1,some 1)] []
   ·refine XE.fin (⟨⟨#[112,dgt P]⟩,qV4,c0,⟨g,f,sd⟩,qs⟩,a8) ⟨zC2 hE (by omega) hc0 hcf0 (by rw[smpE,Aq];dsimp only;omega) (by omega) rfl (by omega) (fun i h=>by have:=y2 i h;rwa [show Nb=qs.length by omega] at this),y3⟩ fun e ⟨_,hst⟩=>?_;exact .oA [(0,some 0)] [1]
  focus
   intro h2;refine XE.mp (fun _ _=>C1.draw 0 l a5 _ (sRa) rfl rfl rfl) ?_;refine sW ?_;refine XE.loopF mixm [6,19,23] (fun y:List Qst×Nat=>y.1.length≤Na∧(∀ i (h:i<y.1.length),qstE s y.1[i]=0∧y.1[i].name=⟨#[113,dgt (Na-i)]⟩)∧y.2≤l.length) (fun y=>[(6,vI ((Na-y.1.length:Nat):Int))]) (fun y=>[(0,oC l y.2),(4096,.arr 2 [schT s] false),(4100,.arr 12 [dclT dcl0] false),(8236,.arr 12 [.agg [vS ⟨#[112,dgt P]⟩,vS qV4,vI (c0:Cnd).op,vI (c0:Cnd).col,vI (c0:Cnd).code,vI (c0:Cnd).lo,vI (c0:Cnd).hi,vCs (c0:Cnd).kids,vI 1,vI 1,vI sd,.asl 1 y.1.length]] false),(1,.arr 17 (y.1.map qstT) false)]) (fun y=>Na-y.1.length) ([],ba) ⟨by simp,fun i h=>by simp at h,hba⟩ (fun e ⟨_,hst⟩=>?_) fun T' y hy ih=>?_
   ·exact .oA [(0,some 0),(4096,some 4096),(4100,some 4100),(8236,some 8236),(1,none)] []
   obtain⟨qs,a8⟩:=y;obtain⟨y1,y2,y3⟩:=hy;dsimp only at y1 y2 y3;simp only[tZ,↓un_u,simprocAttr,AZ,Ay];refine XE.brN (fun h4=>?_) (fun h4=>?_)
   ·have hlt:qs.length<Na:=by omega
    have hI:=qG8 (Na-qs.length) (by omega);obtain⟨⟨q,a9⟩,⟨⟨hq,hqn⟩,ha9⟩,sQ⟩:=jH s hd ⟨#[113,dgt (Na-qs.length)]⟩ (nm_p _ (by omega)).2 l a8 hl y3;dsimp only at hq hqn ha9 sQ;have hwk:=kg (i:=Na-qs.length) (by omega) (by omega);refine XE.mp (fun _ _=>C1.im hI (by rfl) (by rfl)) ?_;simp only[tZ,↓un_u,simprocAttr,qG7];refine XE.sd (show 1+1≤9223372036854775807 by omega) ?_;refine XE.mp (fun _ _=>C1.draw 0 l a8 _ sQ rfl rfl rfl) ?_;simp only[tZ,↓un_u,simprocAttr,hwk];refine XE.sd (by omega) (XE.sd (by kernel_rfl) ?_);refine XE.next ih (qs++[q],a9) ⟨by simp;omega,fun i h=>?_,ha9⟩ (by simp;omega) fun e ⟨_,hst⟩=>?_
    ·dsimp only at h ⊢
     by_cases hi:i<qs.length
     ·rw[List.getElem_append_left hi];exact y2 i hi
     ·have he:i=qs.length:=by rw[AW] at h;simp at h;omega
      subst he;rw[List.getElem_append_right (BZ _)];simpa using Az hq hqn
    ·have e1:Na-(qs++[q]).length=Na-qs.length-1:=by rw[AW];simp;omega
     simp only[e1];exact .oA [(0,some 0),(4096,some 4096),(4100,some 4100),(8236,some 8236),(1,some 1)] []
   ·refine XE.fin (⟨⟨#[112,dgt P]⟩,qV4,c0,⟨1,1,sd⟩,qs⟩,a8) ⟨zC2 hE (by omega) hc0 hcf0 (by rw[smpE,Aq];dsimp only;omega) (by omega) rfl (by omega) (fun i h=>by have:=y2 i h;rwa [show Na=qs.length by omega] at this),y3⟩ fun e ⟨_,hst⟩=>?_;exact .oA [(0,some 0)] [1]
theorem qb0 (s:Sch) (hd:DrS s) (l:List UInt8) (a:Nat) (hl:l.length≤400) (ha:a≤l.length) :
 ∃ r:Dcl×Nat,(dclE s r.1=0∧r.2≤l.length)∧Spc Tryz.prog zq [.ptr 0 1 0 0,schT s] [(0,oC l a)] (dclT r.1) [(0,oC l r.2)]:=by
 obtain⟨r,⟨⟨h1,_⟩,h2⟩,h⟩:=YN s hd l a hl ha;exact⟨r,⟨h1,h2⟩,h⟩
theorem jP2 (l:List UInt8) (a:Nat) (hl:l.length≤400) (ha:a≤l.length) :
 ∃ (k:Int) (b:Nat),0≤k∧k<1152921504606846976∧b≤l.length∧Spc Tryz.prog yI [.ptr 0 1 0 0] [(0,oC l a)] (vI k) [(0,oC l b)]:=by
 obtain⟨u,a1,u1,u2,ha1,s1⟩:=yu l a 60000 hl ha (by omega);obtain⟨v,a2,v1,v2,ha2,s2⟩:=yu l a1 60000 hl ha1 (by omega);obtain⟨w,a3,w1,w2,ha3,s3⟩:=yu l a2 7 hl ha2 (by omega);have h1:0≤u*v:=Int.mul_nonneg u1 v1;have h2:u*v≤60000*60000:=Int.mul_le_mul (by omega) (by omega) v1 (by omega);refine⟨u*v+w,a3,by omega,by omega,ha3,?_⟩;have hw1:IntKind.i64.wrap (u*v)=u*v:=AK _ (by omega);have hw2:IntKind.i64.wrap (u*v+w)=u*v+w:=AK _ (by omega);refine qd qr2 mixm (by simp) fun e _ hst=>qh ?_;unfold yd;refine sW ?_;refine C1.draw 0 l a _ s1 rfl rfl rfl ?_;refine sW ?_;refine C1.draw 0 l a1 _ s2 rfl rfl rfl ?_;simp only[tZ,↓un_u,simprocAttr,hw1];refine C1.draw 0 l a2 _ s3 rfl rfl rfl ?_;simp only[tZ,↓un_u,simprocAttr,hw1,hw2];exact .oA [(0,some 0)] []
end Go.Proofs
namespace Go.Proofs
open Go Go.TL
theorem wC (s:ByteArray):Spc Tryz.prog jC [vS s] [] (vB (jq s)) []:=by
 refine qd zy5 mixm (by simp) fun e _ hst=>qh ?_;unfold qe3;refine sW ?_;refine⟨fun h=>?_,fun h=>?_,fun h=>?_,fun h=>?_⟩
 ·simp at h;omega
 ·simp at h;omega
 ·have:jq s=false:=by unfold jq zV9;rw[h];rfl
  rw[this];exact .oA [] []
 have hd:zV9 s=false:=h;have hs16:s.data.toList.length≤16:=by
  unfold zV9 at hd;simp only[FX,Ay] at hd;have:s.size=s.data.toList.length:=by rw[Array.length_toList];rfl
  omega
 refine qw mixm (α:=Nat) [26] (fun i=>i≤s.data.toList.length∧((s.data.toList.take i).any ze7=false)) (fun i=>[(26,vI i)]) (fun i=>[]) (fun i=>s.data.toList.length-i) 0 ⟨by omega,?_⟩ ?_ fun i hi=>?_
 ·rfl
 ·exact .oA [] []
 refine sD ?_;refine⟨fun h5=>?_,fun h5=>?_⟩
 ·have hi2:i<s.data.toList.length:=by omega
  have hwi:=qk (i:=i) (by omega);simp only[tZ,↓un_u,simprocAttr,Ax,qe hi2,hwi,Zo];refine⟨by omega,fun h6=>?_,fun h6=>?_⟩
  ·have hb:ze7 s.data.toList[i]=true:=h6;have:jq s=false:=by
    unfold jq;rw[show s.data.toList.any ze7=true from DJ.2 ⟨_,AX hi2,hb⟩];simp
   rw[this];exact .oA [] []
  ·have hb:ze7 s.data.toList[i]=false:=h6;refine⟨i+1,⟨by omega,kh hi2 hi.2 hb⟩,by omega,?_⟩;exact .oA [] []
 ·have h3:=hi.2;have:i=s.data.toList.length:=by omega
  rw[this,Bw] at h3;have hn:jq s=!(resW.contains s.toList):=by unfold jq;rw[hd,h3];rfl
  rw[hn];simp only[resW,List.contains_cons,List.contains_nil]
  repeat' (first | with_reducible apply Az | with_reducible intro _)
  all_goals first
   | (exfalso;simp_all;done)
   | (simp only[*,Bool.true_or,Bool.or_true,Bool.false_or,Bool.or_false,Bool.not_true,Bool.not_false];exact .imR rfl rfl)
end Go.Proofs
namespace Go.Proofs
open Go Go.TL
set_option maxHeartbeats 8000000
def depL (cs:List Cod):List Int:=(List.range cs.length).map fun i=>(dep cs i:Int)
def depO (cs:List Cod) (i:Nat):List Int:=((List.range i).map fun i=>(dep cs i:Int))++List.replicate (cs.length-i) 0
theorem qq1 (cs:List Cod):(depL cs).length=cs.length:=by simp [depL]
theorem jP3 {cs:List Cod} {i:Nat} (h:i≤cs.length):(depO cs i).length=cs.length:=by simp [depO];omega
theorem jF1 (cs:List Cod):depO cs 0=List.replicate cs.length 0:=by simp [depO]
theorem jP4 (cs:List Cod):depO cs cs.length=depL cs:=by simp [depO,depL]
theorem jP5 {cs:List Cod} {i:Nat} (h:i<cs.length) (v:Int) (hv:v=dep cs i):(depO cs i).set i v=depO cs (i+1):=by
 unfold depO;rw[List.set_append_right _ _ (by simp),BY,List.length_range,Nat.sub_self,show cs.length-i=(cs.length-(i+1))+1 by omega,List.replicate_succ,List.set_cons_zero,List.range_succ,By,Dj,hv]
 rfl
theorem jF2 {cs:List Cod} {i:Nat} (h:i<cs.length) (h0:dep cs i=0):depO cs i=depO cs (i+1):=by
 unfold depO;rw[show cs.length-i=(cs.length-(i+1))+1 by omega,List.replicate_succ,List.range_succ,By,Dj,List.map_cons,h0]
 rfl
theorem kc1 {cs:List Cod} {i k:Nat} (h:k<i) (hi:i≤cs.length):(depO cs i).getD k 0=dep cs k:=by
 unfold depO;rw[CY,BK (by simp;omega),DY,List.getElem?_range (by omega)]
 rfl
theorem jW9 (n:Nat):List.replicate n (T.v (Value.int IntKind.i64 0))=(List.replicate n (0:Int)).map vI:=by simp
structure ParR (cs:List Cod):Prop where
 ok:qV1 cs
 kid:∀ i,0<i→i<cs.length→0≤parC cs i
 root:parC cs 0<0∨cs.length=0
 len:cs.length≤60
theorem yv (l:CodL) (h:ParR l.codes):Spc Tryz.prog jK [cdlT l] [] (vIs (depL l.codes)) []:=by
 have hl:=h.len;refine qd ze4 mixm (by simp) fun e _ hst=>qh ?_;unfold Wl;refine sW ?_;refine⟨by omega,?_⟩;refine qw mixm (α:=Nat) [13] (fun i=>i≤l.codes.length) (fun i=>[(13,vI i)]) (fun i=>[(4096,.arr 2 [cdlT l] false),(8204,.arr 1 ((depO l.codes i).map vI) false)]) (fun i=>l.codes.length-i) 0 (by omega) ?_ fun i hi=>?_
 ·rw[jF1];refine .of [(4096,some 4096),(8204,some 8204)] [] rfl (by first | rfl | (rw[hst];rfl)) ?_ ?_
  all_goals (try simp only[tL,simprocAttr,By,List.map_cons,List.map_nil,BW,Cy,Ax,jW9])
  all_goals (try (repeat' (first | exact ze | (apply zB;intro _;exact⟨rfl,rfl⟩) | (apply qH;intro _;exact⟨rfl,rfl⟩) | with_reducible apply qX | with_reducible refine qT ⟨rfl,rfl⟩ ?_ | exact qY | with_reducible apply qU | with_reducible refine qW ⟨rfl,rfl,?_⟩ ?_ | with_reducible apply Az | exact qV rfl | exact qV (by assumption) | (refine⟨⟨?_,rfl,?_,rfl,?_⟩,trivial⟩ <;> first | (simp;done) | (apply qH;intro _;exact⟨rfl,rfl⟩)) | trivial | rfl | (rw[qk (by omega)]) | omega)))
 have hol:=jP3 (cs:=l.codes) hi;refine sD ?_;refine⟨fun h2=>?_,fun h2=>?_⟩
 ·have hi2:i<l.codes.length:=by omega
  have hwi:=qk (i:=i) (by omega);have hp:=h.ok i hi2;have hat:cdAt l.codes i=l.codes[i]:=by rw[cdAt,qg hi2]
  have hpar:l.codes[i].par=parC l.codes i:=by rw[parC,hat]
  simp only[tZ,↓un_u,simprocAttr,Ax,qe hi2,hpar,gt_iff_lt,tD];refine⟨by omega,fun h4=>?_,fun h4=>?_⟩
  ·have hk:=h.kid i (by omega) hi2;have hdk:=qy2 h.ok hi2 hk;obtain⟨q,hq⟩:=AJ hk;have hqi:q<i:=by omega
   have hq3:q<(depO l.codes i).length:=by omega
   have hq4:(depO l.codes i)[q]=dep l.codes q:=by
    have:=kc1 (cs:=l.codes) hqi hi;rw[qg hq3] at this;exact this
   have hdl:=qQ5 h.ok q (by omega);have hwd:=qk (i:=dep l.codes q) (by omega);rw[hq,Ax] at hdk;have hi3:i<(depO l.codes i).length:=by omega
   have hset:=jP5 hi2 ((dep l.codes q+1:Nat):Int) (by rw[hdk]);simp only[tZ,↓un_u,simprocAttr,hq,Ax,qe hq3,qe hi3,hq4,hwd,hwi,show ∀ a b:Int,repl (vI a) 0 (vI b)=vI b from fun _ _=>rfl];refine⟨by omega,by omega,by omega,by omega,i+1,by omega,by omega,?_⟩;rw[← List.map_set,hset];exact .oA [(4096,some 4096),(8204,some 8204)] []
  ·have hz:i=0:=by omega
   subst hz;have hr:=h.root.resolve_right (by omega);have hn:=jF2 hi2 (qF3 hr);simp only[tZ,↓un_u,simprocAttr,hwi];refine⟨1,by omega,by omega,?_⟩;rw[← hn];exact .oA [(4096,some 4096),(8204,some 8204)] []
 ·have hil:i=l.codes.length:=by omega
  subst hil;rw[jP4,Ax];have hdl:=qq1 l.codes;exact .oA [] [8204]
def aboL (cs:List Cod) (i:Nat):List Bool:=(List.range cs.length).map fun (k:Nat)=>(cs.take i).any fun x=>x.par==(k:Int)
theorem qf8 (cs:List Cod) (i:Nat):(aboL cs i).length=cs.length:=by simp [aboL]
theorem jF3 (cs:List Cod):aboL cs 0=List.replicate cs.length false:=by
 rw[List.eq_replicate_iff];refine⟨qf8 cs 0,fun b hb=>?_⟩;obtain⟨k,_,rfl⟩:=Cj.1 hb;simp
theorem qH3 {cs:List Cod} {i k:Nat} (h:k<(aboL cs i).length):(aboL cs i)[k]=(cs.take i).any fun x=>x.par==(k:Int):=by simp [aboL]
theorem jF4 {cs:List Cod} {i:Nat} (h:i<cs.length) (hp:cs[i].par<0):aboL cs (i+1)=aboL cs i:=by
 refine List.ext_getElem (by rw[qf8,qf8]) fun k h1 h2=>?_;have h3:(cs[i].par==(k:Int))=false:=Ak.2 (by omega);rw[qH3,qH3,qM h,FW,List.any_cons,List.any_nil,h3];simp
theorem jP6 {cs:List Cod} {i p:Nat} (h:i<cs.length) (hp:cs[i].par=p):(aboL cs i).set p true=aboL cs (i+1):=by
 refine List.ext_getElem (by rw[Fw,qf8,qf8]) fun k h1 h2=>?_;rw[Fk,qH3,qH3,qM h,FW,List.any_cons,List.any_nil,hp];by_cases e:p=k
 ·subst e;simp
 ·have:((p:Int)==(k:Int))=false:=Ak.2 (by omega);rw[Aq e,this];simp
theorem jP7 {cs:List Cod} {k:Nat} (h:k<(aboL cs cs.length).length):(aboL cs cs.length)[k]=!qy3 cs k:=by
 rw[qH3,Bw,qy3,Bool.not_not]
theorem kj3 (n:Nat):List.replicate n (T.v (Value.bool false))=(List.replicate n false).map vB:=by simp
def zW6 (cs:List Cod):List (ByteArray×Bool):=cs.map fun c=>(c.name,true)
theorem zP8 {nm:ByteArray}:∀ {cs:List Cod},(TL.look TL.eqS nm (zW6 cs)).getD false=cs.any fun x=>eqB x.name nm
 | []=>rfl
 | c::cs=>by
   have h:TL.eqS nm c.name=eqB c.name nm:=by
    rw[Bool.eq_iff_iff,TL.eqS,eqB,AY,AY];exact⟨fun h=>h.symm,fun h=>h.symm⟩
   simp only[zW6,List.map_cons,TL.look,List.any_cons,h];cases eqB c.name nm with
   | true=>rfl
   | false=>rw[Aq (by simp),Bool.false_or];exact zP8
theorem ji4 {c:Cod}:∀ {cs:List Cod},(cs.any fun x=>eqB x.name c.name)=false→TL.asg TL.eqS c.name true (zW6 cs)=zW6 (cs++[c])
 | [],_=>rfl
 | x::cs,h=>by
   rw[List.any_cons,FX] at h;have h1:TL.eqS c.name x.name=eqB x.name c.name:=by
    rw[Bool.eq_iff_iff,TL.eqS,eqB,AY,AY];exact⟨fun h=>h.symm,fun h=>h.symm⟩
   simp only[zW6,List.map_cons,TL.asg,h1,h.1,BW];rw[Aq (by simp)]
   congr 1
   exact ji4 h.2
theorem kj4 {cs:List Cod} (h:cdEs cs cs.length=0) (hl:cs.length≤60):ParR cs:=by
 refine⟨jW4 h,fun i h0 hi=>(zz9 (qF4 h i hi)).2.2.2 h0,?_,hl⟩;rcases DQ cs.length with h0 | h0
 ·exact .inr h0
 ·have:=(zz9 (qF4 h 0 h0)).2.2.1 rfl;exact .inl (by omega)
theorem qn8 {l:CodL} (h:lstE l=0):ParR l.codes:=by
 obtain⟨_,_,h3⟩:=zf h;refine kj4 ?_ h3;unfold lstE at h;split at h
 ·cases h
 ·split at h
  ·cases h
  ·split at h
   ·cases h
   ·split at h
    ·rename_i h2;exact absurd h h2
    ·rename_i h4;exact AQ h4
theorem Ku (l:CodL):Spc Tryz.prog wM [cdlT l] [] (vI (lstE l)) []:=by
 refine qd zn8 mixm (by simp) fun e _ hst=>qh ?_;unfold Yw;refine sW ?_;refine C1.im (wC l.name) (by rfl) (by rfl) ?_;simp only[tZ,↓un_u,simprocAttr,Bx,Bz];refine⟨fun h=>?_,fun h1=>?_⟩
 ·rw[lstE,Aj h];exact .oA [] []
 simp only[tZ,↓un_u,simprocAttr,AY,Ak];refine⟨fun h=>?_,fun h2=>?_⟩
 ·rw[lstE,Aq (by rw[h1];simp),Aj (by omega)];exact .oA [] []
 refine sD ?_;refine⟨fun h=>?_,fun h3=>?_⟩
 ·rw[lstE,Aq (by rw[h1];simp),Aq (by omega),Aj (by omega)];exact .oA [] []
 have hE1:cdEs l.codes l.codes.length≠0→lstE l=cdEs l.codes l.codes.length:=fun h=>by
  rw[lstE,Aq (by rw[h1];simp),Aq (by omega),Aq (by omega),Aj h]
 have hE2:cdEs l.codes l.codes.length=0→lvs l.codes l.codes.length=none→lstE l=5:=fun h k=>by
  rw[lstE,Aq (by rw[h1];simp),Aq (by omega),Aq (by omega),Aq (by rw[h];simp),k]
 have hE3:∀ v,cdEs l.codes l.codes.length=0→lvs l.codes l.codes.length=some v→lstE l=0:=fun v h k=>by
  rw[lstE,Aq (by rw[h1];simp),Aq (by omega),Aq (by omega),Aq (by rw[h];simp),k]
 refine⟨by omega,by kernel_rfl,?_⟩;refine qw mixm (α:=Nat) [33] (fun i=>i≤l.codes.length∧cdEs l.codes i=0) (fun i=>[(33,vI i)]) (fun i=>[(4096,.arr 2 [cdlT l] false),(32768,.mp (.sb (zW6 (l.codes.take i)))),(32784,.arr 1 ((aboL l.codes i).map vB) false)]) (fun i=>l.codes.length-i) 0 ⟨by omega,rfl⟩ ?_ fun i hi=>?_
 ·simp only[List.take_zero,zW6,List.map_nil,jF3];refine .of [(4096,some 4096),(32768,some 32768),(32784,some 32784)] [] rfl (by first | rfl | (rw[hst];rfl)) ?_ ?_
  all_goals (try simp only[tL,simprocAttr,By,List.map_cons,List.map_nil,BW,Cy,Ax,kj3])
  all_goals (try (repeat' (first | exact ze | (apply zB;intro _;exact⟨rfl,rfl⟩) | (apply qH;intro _;exact⟨rfl,rfl⟩) | with_reducible apply qX | with_reducible refine qT ⟨rfl,rfl⟩ ?_ | exact qY | with_reducible apply qU | with_reducible refine qW ⟨rfl,rfl,?_⟩ ?_ | with_reducible apply Az | exact qV rfl | exact qV (by assumption) | (refine⟨⟨?_,rfl,?_,rfl,?_⟩,trivial⟩ <;> first | (simp;done) | (apply qH;intro _;exact⟨rfl,rfl⟩)) | trivial | rfl | (rw[qk (by omega)]) | omega)))
 obtain⟨i1,i2⟩:=hi;have hbl:=qf8 l.codes i;refine sD ?_;refine⟨fun h4=>?_,fun h4=>?_⟩
 ·have hi2:i<l.codes.length:=by omega
  have hwi:=qk (i:=i) (by omega);have hat:cdAt l.codes i=l.codes[i]:=by rw[cdAt,qg hi2]
  have hs:cdEs l.codes (i+1)=cdE l.codes i:=by rw[cdEs,Aq (by rw[i2];simp)]
  have hbad:cdE l.codes i≠0→lstE l=cdE l.codes i:=fun hb=>by
   have:=zt8 (by rw[hs];exact hb) l.codes.length (show i+1≤l.codes.length by omega);rw[hE1 (by rw[this,hs];exact hb),this,hs]
  simp only[tZ,↓un_u,simprocAttr,Ax,qe hi2];refine⟨by omega,?_⟩;refine C1.im (wC l.codes[i].name) (by rfl) (by rfl) ?_;simp only[tZ,↓un_u,simprocAttr,Bx,Bz,zP8];refine⟨fun h5=>?_,fun h5=>?_⟩
  ·have hc:cdE l.codes i=3:=by rw[cdE,hat,Aj h5]
   rw[hbad (by rw[hc];decide),hc];exact .oA [] []
  refine⟨fun h6=>?_,fun h6=>?_⟩
  ·have hc:cdE l.codes i=10:=by rw[cdE,hat,Aq (by rw[h5];simp),Aj h6]
   rw[hbad (by rw[hc];decide),hc];exact .oA [] []
  have hpar:l.codes[i].par=parC l.codes i:=by rw[parC,hat]
  have hcE:cdE l.codes i=if (i=0∧parC l.codes i≠-1)∨(0<i∧(parC l.codes i<0∨parC l.codes i≥i)) then 6 else 0:=by
   rw[cdE,hat,Aq (by rw[h5];simp),Aq (by rw[h6];simp)]
  have hasg:=ji4 (c:=l.codes[i]) (cs:=l.codes.take i) h6;rw[← qM hi2] at hasg;simp only[tZ,↓un_u,simprocAttr,hasg,hpar,tD,AY,Ak,Bj,Aw];refine⟨fun h7=>?_,fun h7=>?_⟩
  ·have hc:cdE l.codes i=6:=by rw[hcE,Aj (by omega)]
   rw[hbad (by rw[hc];decide),hc];exact .oA [] []
  have hc0:cdEs l.codes (i+1)=0:=by rw[hs,hcE,Aq (by omega)]
  refine⟨fun h8=>?_,fun h8=>?_⟩
  ·obtain⟨q,hq⟩:=AJ (show 0≤parC l.codes i by omega);have hq3:q<(aboL l.codes i).length:=by omega
   have hset:=jP6 (p:=q) hi2 (by rw[hpar,hq]);simp only[hq,Ax,qe hq3,show ∀ a b:Bool,repl (vB a) 0 (vB b)=vB b from fun _ _=>rfl,hwi];refine⟨⟨by omega,by omega,by omega⟩,⟨by omega,by omega,rfl⟩,i+1,⟨by omega,hc0⟩,by omega,?_⟩;rw[← List.map_set,hset];exact .oA [(4096,some 4096),(32768,some 32768),(32784,some 32784)] []
  ·have hsk:=jF4 hi2 (by omega);simp only[hwi];refine⟨i+1,⟨by omega,hc0⟩,by omega,?_⟩;rw[hsk];exact .oA [(4096,some 4096),(32768,some 32768),(32784,some 32784)] []
 ·have hil:i=l.codes.length:=by omega
  subst hil;have hP:=kj4 i2 (by omega);have hdl:=qq1 l.codes;refine C1.im (yv l hP) (by rfl) (by rfl) ?_;refine sW ?_;have hbl:=qf8 l.codes l.codes.length;refine qw mixm (α:=Nat×Int) [7,84] (fun x=>x.1≤l.codes.length∧lvs l.codes x.1=some x.2) (fun x=>[(7,vI x.2),(84,vI x.1)]) (fun x=>[(32784,.arr 1 ((aboL l.codes l.codes.length).map vB) false)]) (fun x=>l.codes.length-x.1) (0,-1) ⟨by simp,rfl⟩ ?_ fun x hx=>?_
  ·rw[Ax];exact .oA [(32784,some 32784)] []
  obtain⟨j,v⟩:=x;obtain⟨j1,j2⟩:=hx;dsimp only at j1 j2;refine sD ?_;refine⟨fun h5=>?_,fun h5=>?_⟩
  ·have hj2:j<l.codes.length:=by omega
   have hwj:=qk (i:=j) (by omega);have hs:=qX0 l.codes j;rw[j2,lvS] at hs;have hj3:j<(depL l.codes).length:=by omega
   have hj4:j<(aboL l.codes l.codes.length).length:=by omega
   have hd1:(depL l.codes)[j]=dep l.codes j:=by simp [depL]
   have ha1:=jP7 hj4;simp only[tZ,↓un_u,simprocAttr,Ax,qe hj3,qe hj4,hd1,ha1,hwj,Bx,Bz,tD,Bj,Aw];refine⟨by omega,by omega,by omega,fun h6=>?_,fun h6=>?_⟩
   ·rw[Aq (by rw[h6];simp)] at hs;refine⟨(j+1,v),⟨by dsimp only;omega,hs⟩,by dsimp only;omega,?_⟩;exact .oA [(32784,some 32784)] []
   ·rw[Aj h6] at hs;refine⟨fun h7=>?_,fun h7=>?_⟩
    ·rw[Aj (by omega)] at hs;rw[hE2 i2 (jh1 hs _ (by omega))];exact .oA [] []
    ·rw[Aq (by omega)] at hs;refine⟨(j+1,(dep l.codes j:Int)),⟨by dsimp only;omega,hs⟩,by dsimp only;omega,?_⟩;exact .oA [(32784,some 32784)] []
  ·have hjl:j=l.codes.length:=by omega
   subst hjl;rw[hE3 v i2 j2];exact .oA [] []
end Go.Proofs
namespace Go.Proofs
open Go Go.TL
set_option maxRecDepth 4000
set_option maxHeartbeats 8000000
theorem Wv (p:CodL→Bool) (f:FuncId) (caps:List T) (hcap:imL caps=true) (l:List CodL) (hf:∀ y∈l,Spc Tryz.prog f (cdlT y::caps) [] (vB (p y)) []) (hl:l.length<4611686018427387904) :
 Spc Tryz.prog jm [.sl 2 (l.map cdlT),.clo f caps] [] (vI (idxI p l)) []:=by
 refine qd Kq mixm (by simp) fun e _ hst=>qh ?_;unfold jb;refine sW ?_;refine qw mixm (α:=Nat) [8] (fun i=>i≤l.length∧((l.take i).any p=false)) (fun i=>[(8,vI i)]) (fun i=>[]) (fun i=>l.length-i) 0 ⟨by omega,?_⟩ ?_ fun i hi=>?_
 ·simp
 ·exact .oA [] []
 simp only[tZ,↓un_u,simprocAttr,AZ,Ay];refine⟨fun h=>?_,fun h=>?_⟩
 ·have hi2:i<l.length:=by omega
  have hwi:=qk (i:=i) (by omega);simp only[tZ,↓un_u,simprocAttr,Ax,qe hi2,hwi,qv0];refine⟨by omega,?_⟩;refine C1.im (hf l[i] (AX hi2)) (YU rfl hcap) rfl ?_;refine sW ?_;refine⟨fun h3=>?_,fun h3=>⟨i+1,⟨by omega,kh hi2 hi.2 h3⟩,by omega,?_⟩⟩
  ·rw[idxI,Aj (zt5 hi2 h3),Qd hi2 hi.2 h3];exact .imR rfl rfl
  ·exact .oA [] []
 ·have h2:i=l.length:=by omega
  have h3:=hi.2;rw[h2,Bw] at h3;rw[idxI,Aq (by rw[h3];simp)];exact .imR rfl rfl
theorem Jk (p:CodL→Bool) (f:FuncId) (caps:List T) (hcap:imL caps=true) (l:List CodL) (hf:∀ y∈l,Spc Tryz.prog f (cdlT y::caps) [] (vB (p y)) []) (hl:l.length<4611686018427387904) :
 Spc Tryz.prog zO [.sl 2 (l.map cdlT),.clo f caps] [] (vB (l.any p)) []:=by
 refine qd ZN mixm (by simp) fun e _ hst=>qh ?_;unfold zF;refine sW ?_;refine C1.im (Wv p f caps hcap l hf hl) (ZX rfl hcap) rfl ?_;refine sW ?_;rw[show decide (idxI p l≥0)=l.any p from zb2 p l];exact .imR rfl rfl
theorem YO (p:Col→Bool) (f:FuncId) (caps:List T) (hcap:imL caps=true) (l:List Col) (hf:∀ y∈l,Spc Tryz.prog f (colT y::caps) [] (vB (p y)) []) (hl:l.length<4611686018427387904) :
 Spc Tryz.prog jL [.sl 7 (l.map colT),.clo f caps] [] (vI (idxI p l)) []:=by
 refine qd WG mixm (by simp) fun e _ hst=>qh ?_;unfold jx;refine sW ?_;refine qw mixm (α:=Nat) [8] (fun i=>i≤l.length∧((l.take i).any p=false)) (fun i=>[(8,vI i)]) (fun i=>[]) (fun i=>l.length-i) 0 ⟨by omega,?_⟩ ?_ fun i hi=>?_
 ·simp
 ·exact .oA [] []
 simp only[tZ,↓un_u,simprocAttr,AZ,Ay];refine⟨fun h=>?_,fun h=>?_⟩
 ·have hi2:i<l.length:=by omega
  have hwi:=qk (i:=i) (by omega);simp only[tZ,↓un_u,simprocAttr,Ax,qe hi2,hwi,qv0];refine⟨by omega,?_⟩;refine C1.im (hf l[i] (AX hi2)) (YU rfl hcap) rfl ?_;refine sW ?_;refine⟨fun h3=>?_,fun h3=>⟨i+1,⟨by omega,kh hi2 hi.2 h3⟩,by omega,?_⟩⟩
  ·rw[idxI,Aj (zt5 hi2 h3),Qd hi2 hi.2 h3];exact .imR rfl rfl
  ·exact .oA [] []
 ·have h2:i=l.length:=by omega
  have h3:=hi.2;rw[h2,Bw] at h3;rw[idxI,Aq (by rw[h3];simp)];exact .imR rfl rfl
theorem Kv (p:Col→Bool) (f:FuncId) (caps:List T) (hcap:imL caps=true) (l:List Col) (hf:∀ y∈l,Spc Tryz.prog f (colT y::caps) [] (vB (p y)) []) (hl:l.length<4611686018427387904) :
 Spc Tryz.prog zZ [.sl 7 (l.map colT),.clo f caps] [] (vB (l.any p)) []:=by
 refine qd JR mixm (by simp) fun e _ hst=>qh ?_;unfold zT;refine sW ?_;refine C1.im (YO p f caps hcap l hf hl) (ZX rfl hcap) rfl ?_;refine sW ?_;rw[show decide (idxI p l≥0)=l.any p from zb2 p l];exact .imR rfl rfl
theorem qV5 (x y:CodL):Spc Tryz.prog yB [cdlT x,.ip (cdlT y).cells] [] (vB (eqB x.name y.name)) []:=by
 refine qd qL8 mixm (by simp) fun e _ hst=>qh ?_;unfold ZO;refine sW ?_;rw[show (x.name.toList==y.name.toList)=eqB x.name y.name from rfl];exact .oA [] []
theorem qi7 (x y:Col):Spc Tryz.prog ju [colT x,.ip (colT y).cells] [] (vB (eqB x.name y.name)) []:=by
 refine qd qf5 mixm (by simp) fun e _ hst=>qh ?_;unfold kE;refine sW ?_;rw[show (x.name.toList==y.name.toList)=eqB x.name y.name from rfl];exact .oA [] []
def unuB (c:Col):Bool:=!(((c.kind != 2)&&(c.list != 0))||((c.kind != 3)&&((c.low != 0)||(c.high != 0)||(c.widths.length != 0)||c.opt)))
theorem Ww (c:Col):Spc Tryz.prog KP [colT c] [] (vB (unuB c)) []:=by
 refine qd qU6 mixm (by simp) fun e _ hst=>qh ?_;unfold JS;refine sW ?_;refine⟨fun h=>?_,fun h=>?_⟩
 ·have:unuB c=false:=by unfold unuB;rw[h];rfl
  rw[this];exact .oA [] []
 ·have e:((c.widths.length:Int)==0)=(c.widths.length==0):=by rw[Bool.eq_iff_iff,AY,AY];omega
  have:unuB c=(c.kind==3||c.low==0&&c.high==0&&((c.widths.length:Int)==0)&&!c.opt):=by
   unfold unuB;rw[h,e];simp only[Bool.false_or,bne,Bool.not_and,Bool.not_or,Bool.not_not]
  rw[this];exact .oA [] []
def zP9 (ws:List Int) (i:Nat):Int:=if i=0 then 1 else ws.getD (i-1) 0
theorem qn9 (c:Col):Spc Tryz.prog wn [colT c] [] (vI (measE c)) []:=by
 refine qd qi1 mixm (by simp) fun e _ hst=>qh ?_;unfold kT;refine sW ?_;simp only[tZ,↓un_u,simprocAttr,tD,Bx,Bz,AY,Ak];have hin:∀ n:Int,inB n (-1000000) 1000000=false↔(n < -1000000∨n>1000000):=fun n=>by
  unfold inB;rw[FJ,Ay,Ay];omega
 refine⟨fun h=>?_,fun h=>?_⟩
 ·have k:inB c.low (-1000000) 1000000=false∨inB c.high (-1000000) 1000000=false∨c.low>c.high:=by
   rw[hin,hin];omega
  rw[measE,Aj k];exact .oA [] []
 have hA:¬ (inB c.low (-1000000) 1000000=false∨inB c.high (-1000000) 1000000=false∨c.low>c.high):=by
  rw[hin,hin];omega
 refine⟨fun h2=>?_,fun h2=>?_⟩
 ·rw[measE,Aq hA,Aj (by omega)];exact .oA [] []
 have hm:measE c=if jN8 c.widths=false then 2 else 0:=by rw[measE,Aq hA,Aq (by omega)]
 refine qw mixm (α:=Nat) [3,36] (fun i=>i≤c.widths.length∧(∀ j,j<i→wdOk c.widths j=true)) (fun i=>[(3,vI (zP9 c.widths i)),(36,vI i)]) (fun i=>[]) (fun i=>c.widths.length-i) 0 ⟨by omega,?_⟩ ?_ fun i hi=>?_
 ·intro j hj;omega
 ·exact .oA [] []
 have hbad:i<c.widths.length→wdOk c.widths i=false→measE c=2:=fun h1 h2=>by
  rw[hm,Aj];exact List.all_eq_false.2 ⟨i,Dk.2 h1,by rw[h2];simp⟩
 have hok:wdOk c.widths i=true→∀ j,j<i+1→wdOk c.widths j=true:=fun h1 j hj=>by
  by_cases e:j=i
  ·rw[e];exact h1
  ·exact hi.2 j (by omega)
 simp only[tZ,↓un_u,simprocAttr,AZ,Ay];refine⟨fun h=>?_,fun h=>?_⟩
 ·have hi2:i<c.widths.length:=by omega
  have hwi:=qk (i:=i) (by omega);have hnx:zP9 c.widths (i+1)=c.widths[i]:=by rw[zP9,Aq (by omega),Nat.add_sub_cancel,qg hi2]
  rcases DQ i with h0 | h0
  ·subst h0;have hw0:wdOk c.widths 0=(c.widths[0]==1):=by rw[wdOk,Aj rfl,qg hi2]
   have hz:((0:Nat):Int)=0:=rfl;rw[hz] at hwi;simp only[tZ,↓un_u,simprocAttr,Ax,hz,beq_self_eq_true,gt_iff_lt,Int.lt_irrefl,decide_false,Bool.false_and,Bool.or_false,Fq,qe hi2,Bj,Aw];have hwz:IntKind.i64.wrap 1=((1:Nat):Int):=by decide
   refine⟨by omega,fun h3=>?_,fun h3=>?_⟩
   ·rw[hbad hi2 (by rw[hw0];simpa using h3)];exact .oA [] []
   ·rw[hwz];refine⟨1,⟨by omega,hok (by rw[hw0];simpa using h3)⟩,by omega,?_⟩;rw[hnx];exact .oA [] []
  ·have e1:((i:Int)==0)=false:=Ak.2 (by omega);have e2:decide ((i:Int)>0)=true:=Cx (by omega);have hw1:wdOk c.widths i=(decide (zP9 c.widths i<c.widths[i])&&decide (c.widths[i]≤1000000)&&(c.widths[i].tmod (zP9 c.widths i)==0)):=by
    rw[wdOk,Aq (by omega),qg hi2,zP9,Aq (by omega)]
   have hp1:1≤zP9 c.widths i:=by
    have:=zN8 (ws:=c.widths) hi.2 (i-1) (by omega);rw[zP9,Aq (by omega)];exact this
   simp only[tZ,↓un_u,simprocAttr,Ax,qe hi2,e1,e2,hwi,tD,Bj,Aw];refine⟨by omega,fun _=>by omega,fun h3=>?_,fun h3=>?_⟩
   ·rw[hbad hi2 (by rw[hw1];grind)];exact .oA [] []
   ·refine⟨i+1,⟨by omega,hok (by rw[hw1];grind)⟩,by omega,?_⟩;rw[hnx];exact .oA [] []
 ·have hi2:i=c.widths.length:=by omega
  subst hi2;rw[hm,Aq]
  ·exact .oA [] []
  ·rw[Ez];exact Bk.2 fun j hj=>hi.2 j (Dk.1 hj)
theorem qt0 (s:Sch) (i:Nat) (hi:i<s.cols.length) (hn:s.cols.length<4611686018427387904) (hl:s.lists.length<4611686018427387904):Spc Tryz.prog wX [schT s,vI i] [] (vI (colE s i)) []:=by
 have hat:qj s i=s.cols[i]:=by rw[qj,qg hi]
 have hE:colE s i=if jq s.cols[i].name=false then 3
  else if ((s.cols.take i).any fun x=>eqB x.name s.cols[i].name)=true then 10
  else if inB s.cols[i].kind 1 3=false∨(0<i∧s.cols[i].kind=1) then 4
  else if s.cols[i].kind=2∧inB s.cols[i].list 0 (s.lists.length-1)=false then 5
  else if s.cols[i].kind=3∧measE s.cols[i]≠0 then measE s.cols[i]
  else if (s.cols[i].kind≠2∧s.cols[i].list≠0)∨(s.cols[i].kind≠3∧(s.cols[i].low≠0∨s.cols[i].high≠0∨0<s.cols[i].widths.length∨s.cols[i].opt=true)) then 11 else 0:=by rw[colE,hat]
 rw[hE];refine qd qm2 mixm (by simp) fun e _ hst=>qh ?_;unfold ww;simp only[tZ,↓un_u,simprocAttr,Ax,qe hi];generalize s.cols[i]=c;refine⟨by omega,?_⟩;refine C1.im (wC c.name) (by rfl) (by rfl) ?_;simp only[tZ,↓un_u,simprocAttr,Bx,Bz];refine⟨fun h=>?_,fun h=>?_⟩
 ·rw[Aj h];exact .oA [] []
 rw[Aq (by rw[h];simp)];have hCF:=Kv (fun x=>eqB x.name c.name) ju [.ip (colT c).cells] rfl (s.cols.take i) (fun x _=>qi7 x c) (by rw[Cz];omega);refine⟨by omega,?_⟩;rw[qk1,zb1];refine C1.lend [8212] hCF ?_ (by rfl) (by rfl) ?_
 ·all_goals (try simp only[tL,simprocAttr,By,List.map_cons,List.map_nil,BW,Cy])
  all_goals (try (repeat' (first | exact ze | (apply zB;intro _;exact⟨rfl,rfl⟩) | (apply qH;intro _;exact⟨rfl,rfl⟩) | with_reducible apply qX | with_reducible refine qT ⟨rfl,rfl⟩ ?_ | exact qY | with_reducible apply qU | with_reducible refine qW ⟨rfl,rfl,?_⟩ ?_ | with_reducible apply Az | exact qV rfl | exact qV (by assumption) | (refine⟨⟨?_,rfl,?_,rfl,?_⟩,trivial⟩ <;> first | (simp;done) | (apply qH;intro _;exact⟨rfl,rfl⟩)) | trivial | rfl | (rw[qk (by omega)]) | omega)))
  simp only[ltP];exact⟨rfl,by decide,rfl,qT ⟨rfl,rfl⟩ qY⟩
 simp only[tZ,↓un_u,simprocAttr,tD,Bx,Bz,AY,Ak];refine⟨fun h2=>?_,fun h2=>?_⟩
 ·rw[Aj h2];exact .oA [] []
 rw[Aq (by rw[h2];simp)];have hI:inB c.kind 1 3=false↔¬ (1≤c.kind∧c.kind≤3):=by unfold inB;rw[FJ,Ay,Ay];omega
 have hL:inB c.list 0 (s.lists.length-1)=false↔(c.list<0∨(s.lists.length:Int)≤c.list):=by unfold inB;rw[FJ,Ay,Ay];omega
 have hU:unuB c=false↔((c.kind≠2∧c.list≠0)∨(c.kind≠3∧(c.low≠0∨c.high≠0∨0<c.widths.length∨c.opt=true))):=by
  have hw0:c.widths.length≠0↔0<c.widths.length:=by omega
  unfold unuB;rw[Bz,DZ,Bq,Bq,Bj,Bj,Bj,DZ,DZ,DZ,Bj,Bj,Bj,hw0,or_assoc,or_assoc]
 have hfin:∀ (v:Int),(unuB c=false→v=11)→(unuB c=true→v=0)→v=if (c.kind≠2∧c.list≠0)∨(c.kind≠3∧(c.low≠0∨c.high≠0∨0<c.widths.length∨c.opt=true)) then 11 else 0:=fun v h11 h00=>by
  by_cases k:unuB c=false
  ·rw[Aj (hU.1 k),h11 k]
  ·rw[Aq (fun e=>k (hU.2 e)),h00 (by simpa using k)]
 refine⟨fun k1=>⟨fun h3=>?_,fun h3=>?_⟩,fun k1=>⟨fun k2=>⟨fun h3=>?_,fun h3=>?_⟩,fun k2=>⟨fun k3=>?_,fun k3=>?_⟩⟩⟩
 ·rw[Aj (.inr ⟨by omega,k1⟩)];exact .oA [] []
 ·rw[Aq (by rw[hI];omega),Aq (by omega),Aq (by omega)];refine C1.im (Ww c) (by rfl) (by rfl) ?_;simp only[tZ,↓un_u,simprocAttr,Bx,Bz];refine⟨fun h4=>?_,fun h4=>?_⟩
  ·rw[← hfin 11 (fun _=>rfl) (fun k=>by rw[h4] at k;cases k)];exact .oA [] []
  ·rw[← hfin 0 (fun k=>by rw[h4] at k;cases k) (fun _=>rfl)];exact .oA [] []
 ·rw[Aq (by rw[hI];omega),Aj ⟨k2,hL.2 h3⟩];exact .oA [] []
 ·rw[Aq (by rw[hI];omega),Aq (by rw[hL];omega),Aq (by omega)];refine C1.im (Ww c) (by rfl) (by rfl) ?_;simp only[tZ,↓un_u,simprocAttr,Bx,Bz];refine⟨fun h4=>?_,fun h4=>?_⟩
  ·rw[← hfin 11 (fun _=>rfl) (fun k=>by rw[h4] at k;cases k)];exact .oA [] []
  ·rw[← hfin 0 (fun k=>by rw[h4] at k;cases k) (fun _=>rfl)];exact .oA [] []
 ·rw[Aq (by rw[hI];omega),Aq (by omega)];refine C1.im (qn9 c) (by rfl) (by rfl) ?_;simp only[tZ,↓un_u,simprocAttr,Bj,Aw];refine⟨fun h3=>?_,fun h3=>?_⟩
  ·rw[Aj ⟨k3,h3⟩];exact .oA [] []
  rw[Aq (by omega)];refine C1.im (Ww c) (by rfl) (by rfl) ?_;simp only[tZ,↓un_u,simprocAttr,Bx,Bz];refine⟨fun h4=>?_,fun h4=>?_⟩
  ·rw[← hfin 11 (fun _=>rfl) (fun k=>by rw[h4] at k;cases k)];exact .oA [] []
  ·rw[← hfin 0 (fun k=>by rw[h4] at k;cases k) (fun _=>rfl)];exact .oA [] []
 ·rw[Aj (.inl (hI.2 (by omega)))];exact .oA [] []
theorem jf (s:Sch) (hn:s.cols.length<4611686018427387904) (hl:s.lists.length<4611686018427387904):Spc Tryz.prog zt [schT s] [] (vI (schE s)) []:=by
 refine qd zc5 mixm (by simp) fun e _ hst=>qh ?_;unfold KW;refine sD ?_;refine⟨fun h=>?_,fun h=>?_⟩
 ·rw[schE,Aj (by omega)];exact .oA [] []
 have hE1:Qk s s.lists.length≠0→schE s=Qk s s.lists.length:=fun k=>by rw[schE,Aq (by omega),Aj k]
 refine qw mixm (α:=Nat) [21] (fun i=>i≤s.lists.length∧Qk s i=0) (fun i=>[(21,vI i)]) (fun i=>[(4096,.arr 2 [schT s] false)]) (fun i=>s.lists.length-i) 0 ⟨by omega,rfl⟩ ?_ fun i hi=>?_
 ·exact .oA [(4096,some 4096)] []
 obtain⟨i1,i2⟩:=hi;refine sD ?_;refine⟨fun h2=>?_,fun h2=>?_⟩
 ·have hi2:i<s.lists.length:=by omega
  have hwi:=qk (i:=i) (by omega);have hat:s.lists.getD i default=s.lists[i]:=qg hi2;have hstep:Qk s (i+1)=if lstE s.lists[i]≠0 then lstE s.lists[i] else if ((s.lists.take i).any fun x=>eqB x.name s.lists[i].name)=true then 10 else 0:=by
   rw[Qk,Aq (by rw[i2];simp),hat]
  have hbad:Qk s (i+1)≠0→schE s=Qk s (i+1):=fun k=>by
   have:=zf1 k s.lists.length (by omega);rw[hE1 (by rw[this];exact k),this]
  have hCF:=Jk (fun x=>eqB x.name s.lists[i].name) yB [.ip (cdlT s.lists[i]).cells] rfl (s.lists.take i) (fun x _=>qV5 x s.lists[i]) (by rw[Cz];omega);simp only[tZ,↓un_u,simprocAttr,Ax,qe hi2,hwi];generalize s.lists[i]=c at *
  refine⟨by omega,?_⟩;refine C1.im (Ku c) (by rfl) (by rfl) ?_;simp only[tZ,↓un_u,simprocAttr,Bj,Aw];refine⟨fun h3=>?_,fun h3=>?_⟩
  ·rw[Aj h3] at hstep;rw[hbad (by rw[hstep];exact h3),hstep];exact .oA [] []
  rw[Aq (by rw[h3];simp)] at hstep;refine⟨by omega,?_⟩;rw[qk1,zb1];refine C1.lend [24588] hCF ?_ (by rfl) (by rfl) ?_
  ·all_goals (try simp only[tL,simprocAttr,By,List.map_cons,List.map_nil,BW,Cy])
   all_goals (try (repeat' (first | exact ze | (apply zB;intro _;exact⟨rfl,rfl⟩) | (apply qH;intro _;exact⟨rfl,rfl⟩) | with_reducible apply qX | with_reducible refine qT ⟨rfl,rfl⟩ ?_ | exact qY | with_reducible apply qU | with_reducible refine qW ⟨rfl,rfl,?_⟩ ?_ | with_reducible apply Az | exact qV rfl | exact qV (by assumption) | (refine⟨⟨?_,rfl,?_,rfl,?_⟩,trivial⟩ <;> first | (simp;done) | (apply qH;intro _;exact⟨rfl,rfl⟩)) | trivial | rfl | (rw[qk (by omega)]) | omega)))
   simp only[ltP];exact⟨rfl,by decide,rfl,qT ⟨rfl,rfl⟩ qY⟩
  simp only[tZ,↓un_u,simprocAttr,hwi];refine⟨fun h4=>?_,fun h4=>?_⟩
  ·rw[Aj h4] at hstep;rw[hbad (by rw[hstep];simp),hstep];exact .oA [] []
  ·rw[Aq (by rw[h4];simp)] at hstep;refine⟨i+1,⟨by omega,hstep⟩,by omega,?_⟩;exact .oA [(4096,some 4096)] []
 ·have hil:i=s.lists.length:=by omega
  subst hil;have hE2:s.cols.length=0∨(qj s 0).kind≠1→schE s=7:=fun k=>by rw[schE,Aq (by omega),Aq (by rw[i2];simp),Aj k]
  have hE3:¬ (s.cols.length=0∨(qj s 0).kind≠1)→schE s=qa3 s s.cols.length:=fun k=>by rw[schE,Aq (by omega),Aq (by rw[i2];simp),Aq k]
  have hz:((0:Nat):Int)=0:=rfl;by_cases h0:s.cols.length=0
  ·have hn:s.cols=[]:=Dy.1 h0;rw[hE2 (.inl h0)];simp only[tZ,↓un_u,simprocAttr,hn,Cw,hz,beq_self_eq_true];exact .oA [] []
  ·have h0p:0<s.cols.length:=by omega
   have e0:((s.cols.length:Int)==0)=false:=Ak.2 (by omega);have hc0:qj s 0=s.cols[0]:=by rw[qj,qg h0p]
   simp only[tZ,↓un_u,simprocAttr,e0,qe h0p,Bj,Aw,Bool.false_or];refine⟨by omega,fun h3=>?_,fun h3=>?_⟩
   ·rw[hE2 (.inr (by rw[hc0];exact h3))];exact .oA [] []
   have hE4:=hE3 (by rw[hc0];grind);refine qw mixm (α:=Nat) [53] (fun i=>i≤s.cols.length∧qa3 s i=0) (fun i=>[(53,vI i)]) (fun i=>[(4096,.arr 2 [schT s] false)]) (fun i=>s.cols.length-i) 0 ⟨by omega,rfl⟩ ?_ fun i hi=>?_
   ·exact .oA [(4096,some 4096)] []
   simp only[tZ,↓un_u,simprocAttr,AZ,Ay];refine⟨fun h=>?_,fun h=>?_⟩
   ·have hi2:i<s.cols.length:=by omega
    have hwi:=qk (i:=i) (by omega);have hstep:qa3 s (i+1)=colE s i:=by rw[qa3,Aq (by rw[hi.2];simp)]
    refine C1.im (qt0 s i hi2 hn hl) (by rfl) (by rfl) ?_;simp only[tZ,↓un_u,simprocAttr,Bj,Aw,hwi];refine⟨fun h4=>?_,fun h4=>?_⟩
    ·have:=zf2 (s:=s) (i:=i+1) (by rw[hstep];exact h4) s.cols.length (by omega);rw[hE4,this,hstep];exact .oA [] []
    ·refine⟨i+1,⟨by omega,by rw[hstep];exact h4⟩,by omega,?_⟩;exact .oA [(4096,some 4096)] []
   ·have hil:i=s.cols.length:=by omega
    rw[hE4,← hil,hi.2];exact .oA [] []
end Go.Proofs
namespace Go.Proofs
open Go Go.TL
set_option maxRecDepth 4000
set_option maxHeartbeats 8000000
theorem qX2 {cs:List Cod}:∀ {n:Nat} {v:Int},lvs cs n=some v→∀ j,j<n→qy3 cs j=true→(dep cs j:Int)=v
 | 0,_,_,j,h,_=>by omega
 | n+1,v,h,j,hj,hl=>by
   rw[qX0] at h;cases e:lvs cs n with
   | none=>rw[e] at h;cases h
   | some w=>
     rw[e] at h;have ih:=fun k hk h2=>qX2 e k hk h2;unfold lvS at h;dsimp only at h;split at h
     ·split at h
      ·cases h
      ·rename_i h2;have hv:(dep cs n:Int)=v:=by simpa using h
       by_cases e2:j=n
       ·rw[e2];exact hv
       ·have:=ih j (by omega) hl;omega
     ·rename_i h2;have hv:w=v:=by simpa using h
      by_cases e2:j=n
      ·rw[e2] at hl;exact absurd hl h2
      ·have:=ih j (by omega) hl;omega
theorem zC3 {cs:List Cod} {c:Nat}:qy3 cs c=true↔∀ i,i<cs.length→parC cs i≠c:=by
 unfold qy3;rw[Bx,List.any_eq_false];constructor
 ·intro h i hi e;have:=h cs[i] (AX hi);rw[parC,cdAt,qg hi] at e;simp [e] at this
 ·intro h x hx;obtain⟨i,hi,rfl⟩:=CX hx;have:=h i hi;rw[parC,cdAt,qg hi] at this;simpa using this
theorem jP8 {l:CodL} (h:lstE l=0):∃ v,lvs l.codes l.codes.length=some v:=by
 unfold lstE at h;split at h
 ·cases h
 ·split at h
  ·cases h
  ·split at h
   ·cases h
   ·split at h
    ·rename_i h2;exact absurd h h2
    ·split at h
     ·cases h
     ·rename_i v e;exact⟨v,e⟩
theorem zW7 {l:CodL} (h:lstE l=0) {c:Nat} (hc:c<l.codes.length):(dep l.codes c:Int)≤zk l-1∧(qy3 l.codes c=true→(dep l.codes c:Int)=zk l-1)∧(qy3 l.codes c=false→(dep l.codes c:Int)<zk l-1):=by
 obtain⟨hp,h1,h2⟩:=zf h;obtain⟨v,hv⟩:=jP8 h;have hlast:qy3 l.codes (l.codes.length-1)=true:=zC3.2 fun i hi e=>by
  have:=(hp i hi).2;omega
 have hlv:=qX2 hv (l.codes.length-1) (by omega) hlast;have hL:zk l-1=v:=by rw[zk,Aq (by rw[h];simp)];omega
 have hall:∀ k c,l.codes.length-c=k→c<l.codes.length→(dep l.codes c:Int)≤v∧(qy3 l.codes c=false→(dep l.codes c:Int)<v):=by
  intro k
  induction k using Nat.strongRecOn with
  | _ k ih=>
    intro c hk hc;cases hl:qy3 l.codes c with
    | true=>
      have:=qX2 hv c hc hl;exact⟨by omega,fun e=>by cases e⟩
    | false=>
      have hn:¬ ∀ i,i<l.codes.length→parC l.codes i≠c:=fun k=>by rw[zC3.2 k] at hl;cases hl
      simp only[Classical.not_forall] at hn;obtain⟨i,hi,hn⟩:=hn;have hpc:parC l.codes i=c:=AQ hn;have h3:=hp i hi;have h4:=qy2 hp hi (by omega);rw[hpc,Ax] at h4;have h5:=ih (l.codes.length-i) (by omega) i rfl hi;have:=h5.1;exact⟨by omega,fun _=>by omega⟩
 have:=hall _ c rfl hc;rw[hL];exact⟨this.1,fun hl=>qX2 hv c hc hl,this.2⟩
theorem jP9 {l:CodL} (h:lstE l=0) {c:Nat} (hc:c<l.codes.length):qy3 l.codes c=true↔(dep l.codes c:Int)=zk l-1:=by
 obtain⟨_,h2,h3⟩:=zW7 h hc;cases hl:qy3 l.codes c with
 | true=>exact⟨fun _=>h2 hl,fun _=>rfl⟩
 | false=>
   have:=h3 hl;exact⟨(by intro e;cases e),fun e=>by omega⟩
theorem qf9 (p:Cod→Bool) (f:FuncId) (caps:List T) (hcap:imL caps=true) (l:List Cod) (hf:∀ y∈l,Spc Tryz.prog f (codT y::caps) [] (vB (p y)) []) (hl:l.length<4611686018427387904) :
 Spc Tryz.prog kz [.sl 2 (l.map codT),.clo f caps] [] (vI (idxI p l)) []:=by
 refine qd qa2 mixm (by simp) fun e _ hst=>qh ?_;unfold jZ;refine sW ?_;refine qw mixm (α:=Nat) [8] (fun i=>i≤l.length∧((l.take i).any p=false)) (fun i=>[(8,vI i)]) (fun i=>[]) (fun i=>l.length-i) 0 ⟨by omega,?_⟩ ?_ fun i hi=>?_
 ·simp
 ·exact .oA [] []
 simp only[tZ,↓un_u,simprocAttr,AZ,Ay];refine⟨fun h=>?_,fun h=>?_⟩
 ·have hi2:i<l.length:=by omega
  have hwi:=qk (i:=i) (by omega);simp only[tZ,↓un_u,simprocAttr,Ax,qe hi2,hwi,qv0];refine⟨by omega,?_⟩;refine C1.im (hf l[i] (AX hi2)) (YU rfl hcap) rfl ?_;refine sW ?_;refine⟨fun h3=>?_,fun h3=>⟨i+1,⟨by omega,kh hi2 hi.2 h3⟩,by omega,?_⟩⟩
  ·rw[idxI,Aj (zt5 hi2 h3),Qd hi2 hi.2 h3];exact .imR rfl rfl
  ·exact .oA [] []
 ·have h2:i=l.length:=by omega
  have h3:=hi.2;rw[h2,Bw] at h3;rw[idxI,Aq (by rw[h3];simp)];exact .imR rfl rfl
theorem WI (p:Cod→Bool) (f:FuncId) (caps:List T) (hcap:imL caps=true) (l:List Cod) (hf:∀ y∈l,Spc Tryz.prog f (codT y::caps) [] (vB (p y)) []) (hl:l.length<4611686018427387904) :
 Spc Tryz.prog jv [.sl 2 (l.map codT),.clo f caps] [] (vB (l.any p)) []:=by
 refine qd Wk mixm (by simp) fun e _ hst=>qh ?_;unfold jp;refine sW ?_;refine C1.im (qf9 p f caps hcap l hf hl) (ZX rfl hcap) rfl ?_;refine sW ?_;rw[show decide (idxI p l≥0)=l.any p from zb2 p l];exact .imR rfl rfl
theorem zg8 (x:Cod) (v:Int):Spc Tryz.prog QE [codT x,.ip [vI v]] [] (vB (x.par==v)) []:=by
 refine qd qU4 mixm (by simp) fun e _ hst=>qh ?_;unfold JP;refine sW ?_;exact .oA [] []
theorem jF5 {l:CodL} (h:lstE l=0) (v:Int):(decide (0≤v)&&decide (v<l.codes.length)&&!(l.codes.any fun x=>x.par==v))=(inB v 0 (l.codes.length-1)&&(lvlC l v==zk l-1)):=by
 unfold inB;by_cases h0:0≤v∧v<l.codes.length
 ·obtain⟨c,rfl⟩:=AJ h0.1;have hc:c<l.codes.length:=by omega
  have h1:lvlC l c=dep l.codes c:=by rw[lvlC,Aq (by rw[h];simp;omega),Ax]
  rw[Cx h0.1,Cx h0.2,Cx (show (c:Int)≤(l.codes.length:Int)-1 by omega),h1];simp only[Fq];rw[Bool.eq_iff_iff,AY,← jP9 h hc]
  rfl
 ·by_cases h1:0≤v
  ·rw[Cx h1,Cq (show ¬ v<l.codes.length by omega),Cq (show ¬ v≤(l.codes.length:Int)-1 by omega)]
   rfl
  ·rw[Cq h1]
   rfl
theorem qH4 (s:Sch) (h:SchOk s) (i:Nat) (hi:i<s.cols.length) (v:Int):Spc Tryz.prog Kg [schT s,colT s.cols[i],vI v] [] (vB (qS s i v)) []:=by
 have hat:qj s i=s.cols[i]:=by rw[qj,qg hi]
 have hk:=qZ (h.cs i hi);have hcd:=fun e=>h.cdl hi e;have hE:qS s i v=if s.cols[i].kind=1 then inB v 1 1048575
  else if s.cols[i].kind=2 then inB v 0 ((qK s i).codes.length-1)&&(lvlC (qK s i) v==zk (qK s i)-1)
  else (s.cols[i].opt&&(v==zz))||inB v s.cols[i].low s.cols[i].high:=by rw[qS,hat]
 have hcl:qK s i=s.lists.getD s.cols[i].list.toNat default:=by rw[qK,hat]
 rw[hat] at hk hcd;rw[hE];rw[hcl] at hcd ⊢
 generalize s.cols[i]=c at hk hcd ⊢
 refine qd zn4 mixm (by simp) fun e _ hst=>qh ?_;unfold Yu;refine sW ?_;simp only[tZ,↓un_u,simprocAttr,AY,Ak];refine⟨fun h1=>?_,fun h1=>⟨fun h2=>?_,fun h2=>?_⟩⟩
 ·rw[Aj h1,show inB v 1 1048575=(decide (1≤v)&&decide (v≤1048575)) from rfl];exact .oA [] []
 ·obtain⟨d1,d2⟩:=hcd h2;obtain⟨d3,d4⟩:=hk.2.2.2.1 h2;have hgl:s.lists.getD c.list.toNat default=s.lists[c.list.toNat]:=qg d1;rw[Aq h1,Aj h2];rw[hgl] at d2 ⊢
  obtain⟨_,d5,d6⟩:=zf d2;simp only[tZ,↓un_u,simprocAttr,qe d1];generalize s.lists[c.list.toNat]=l at d2 d5 d6 ⊢
  have hCF:=WI (fun x=>x.par==v) QE [.ip [vI v]] rfl l.codes (fun x _=>zg8 x v) (by omega);refine⟨by omega,?_⟩;refine C2.lend [4104] (fun _=>hCF) (fun _=>?_) (by rfl) (by rfl) ?_
  ·all_goals (try simp only[tL,simprocAttr,By,List.map_cons,List.map_nil,BW,Cy])
   all_goals (try (repeat' (first | exact ze | (apply zB;intro _;exact⟨rfl,rfl⟩) | (apply qH;intro _;exact⟨rfl,rfl⟩) | with_reducible apply qX | with_reducible refine qT ⟨rfl,rfl⟩ ?_ | exact qY | with_reducible apply qU | with_reducible refine qW ⟨rfl,rfl,?_⟩ ?_ | with_reducible apply Az | exact qV rfl | exact qV (by assumption) | (refine⟨⟨?_,rfl,?_,rfl,?_⟩,trivial⟩ <;> first | (simp;done) | (apply qH;intro _;exact⟨rfl,rfl⟩)) | trivial | rfl | (rw[qk (by omega)]) | omega)))
   simp only[ltP];exact⟨rfl,by decide,rfl,qT ⟨rfl,rfl⟩ qY⟩
  refine sW ?_;rw[← jF5 d2 v];exact .oA [] []
 ·rw[Aq h1,Aq h2,Bool.or_comm,show inB v c.low c.high=(decide (c.low≤v)&&decide (v≤c.high)) from rfl];rw[show (c.opt&&v==zz)=(c.opt&&v == -1099511627776) from rfl];exact .oA [] []
theorem zC4 (s:Sch) (h0:schE s=0) (row:List Int) (hr:row.length<4611686018427387904):Spc Tryz.prog qc9 [schT s,vIs row] [] (vB (rowE s row==0)) []:=by
 have hok:=qO h0;have hnc:=hok.nc;refine qd zn2 mixm (by simp) fun e _ hst=>qh ?_;unfold Yt;simp only[tZ,↓un_u,simprocAttr,tD,Bj,Aw];refine⟨fun h2=>?_,fun h2=>?_⟩
 ·have:rowE s row=9:=by rw[rowE,Aq (by rw[h0];simp),Aj (by omega)]
  rw[this];exact .oA [] []
 refine qw mixm (α:=Nat) [16] (fun i=>i≤s.cols.length∧(∀ j,j<i→qS s j (row.getD j 0)=true)) (fun i=>[(16,vI i)]) (fun i=>[(4096,.arr 2 [schT s] false)]) (fun i=>s.cols.length-i) 0 ⟨by omega,?_⟩ ?_ fun i hi=>?_
 ·intro j hj;omega
 ·exact .oA [(4096,some 4096)] []
 simp only[tZ,↓un_u,simprocAttr,AZ,Ay];refine⟨fun h=>?_,fun h=>?_⟩
 ·have hi2:i<s.cols.length:=by omega
  have hi3:i<row.length:=by omega
  have hwi:=qk (i:=i) (by omega);have hF:=qH4 s hok i hi2 row[i];simp only[tZ,↓un_u,simprocAttr,Ax,qe hi2,qe hi3,hwi];refine⟨by omega,by omega,?_⟩;refine C1.im hF (by rfl) (by rfl) ?_;simp only[tZ,↓un_u,simprocAttr,Bx,Bz];refine⟨by kernel_rfl,fun h3=>?_,fun h3=>?_⟩
  ·rw[jO1 h0 (by omega) hi3 h3];exact .oA [] []
  ·refine⟨i+1,⟨by omega,fun j hj=>?_⟩,by omega,?_⟩
   ·by_cases e:j=i
    ·rw[e,qg hi3];exact h3
    ·exact hi.2 j (by omega)
   ·exact .oA [(4096,some 4096)] []
 ·have hil:i=s.cols.length:=by omega
  rw[jD4 h0 (by omega) (fun j hj=>hi.2 j (by omega))];exact .oA [] []
end Go.Proofs
namespace Go.Proofs
open Go Go.TL
def ordB (l:List (List Int)):Bool:=(List.range l.length).all fun i=>decide (0<(l.getD i []).length)&&(decide (i=0)||decide (hd (l.getD (i-1) [])<hd (l.getD i [])))
def hasK (l:List (List Int)) (k:Int):Bool:=l.any fun r=>hd r==k
def appR (a:List (List Int)) (g:List Int) (rs:List (List Int)):List (List Int):=rs.foldl putR (a.filter fun r=>!g.contains (hd r))
theorem jQ0 {a b:List (List Int)} (ha:AscR a) (hb:AscR b) (h:∀ r,r∈a↔r∈b):a=b:=by
 refine So.srt_uniq (lt:=fun x y=>decide (hd x<hd y)) ⟨fun x y h=>?_,fun x y z h1 h2=>?_⟩ (ha.imp fun h=>Cx h) (hb.imp fun h=>Cx h) h
 ·simp only[AZ] at h;exact Cq (by omega)
 ·simp only[Ay] at h1 h2 ⊢
  omega
def ascI (l:List Int):Bool:=(List.range l.length).all fun i=>asc2 l i
def appE (a:Ext) (c:Chg):Int:=
 if ordB a.rows=false∨ordB c.rows=false∨ascI c.gone=false∨(c.rows.any fun r=>decide (r.length≠a.picks.length+1))=true then 11
 else if (c.gone.any fun k=>!hasK a.rows k)=true then 21 else if (c.gone.any fun k=>hasK c.rows k)=true then 10 else 0
structure ExtOk (x:Ext):Prop where
 ord:ordB x.rows=true
 len:∀ r∈x.rows,r.length=x.picks.length+1
end Go.Proofs
namespace Go.Proofs
open Go Go.TL
set_option maxRecDepth 4000
set_option maxHeartbeats 8000000
open So
def RwSm (l:List (List Int)):Prop:=l.length≤1000000∧∀ r∈l,r.length*8≤140737488355328
structure ExtSm (x:Ext):Prop where
 rows:RwSm x.rows
 picks:x.picks.length*16≤140737488355328
structure ChgSm (c:Chg):Prop where
 rows:RwSm c.rows
 gone:c.gone.length≤1000000
end Go.Proofs
namespace Go.Proofs
open Go Go.TL
set_option maxHeartbeats 8000000
open So
theorem qH5 (l:List Int) (hl:l.length*8≤140737488355328):Spc Tryz.prog Qy [vIs l] [] (vIs l) []:=by
 refine qd qw6 mixm (by simp) fun e _ hst=>qh ?_;unfold yP;refine sW ?_;refine⟨fun h=>?_,?_⟩
 ·have:l=[]:=by
   simpa using h
  subst this;exact .oA [] []
 ·refine⟨by omega,?_⟩;exact .oA [] [16384]
theorem Wx (l:List Pk) (hl:l.length*16≤140737488355328):Spc Tryz.prog ko [vPs l] [] (vPs l) []:=by
 refine qd qr6 mixm (by simp) fun e _ hst=>qh ?_;unfold yf;refine sW ?_;refine⟨fun h=>?_,?_⟩
 ·have:l=[]:=by
   simpa using h
  subst this;exact .oA [] []
 ·refine⟨by omega,?_⟩;exact .oA [] [16384]
def idxN (n:Int):List Int→Nat
 | []=>0
 | x::r=>if x=n then 0 else idxN n r+1
theorem jF6 {n:Int}:∀ {l:List Int} {i:Nat} (h:i<l.length),n∉l.take i→l[i]=n→idxN n l=i
 | [],i,h,_,_=>by simp at h
 | x::r,0,h,_,hp=>by simp at hp;simp [idxN,hp]
 | x::r,i+1,h,h1,hp=>by
   simp only[List.take_succ_cons,Ck,not_or] at h1;simp only[idxN];rw[Aq (fun e=>h1.1 e.symm),jF6 (l:=r) (i:=i) (by simpa using h) h1.2 (by simpa using hp)]
def ji5 (l:List Int) (n:Int):Int:=if n∈l then idxN n l else -1
theorem qH6 (l:List Int) (n:Int) (hl:l.length<4611686018427387904):Spc Tryz.prog QC [vIs l,vI n] [] (vI (ji5 l n)) []:=by
 refine qd qx3 mixm (by simp) fun e _ hst=>qh ?_;unfold yS;refine sW ?_;refine qw mixm (α:=Nat) [8] (fun i=>i≤l.length∧(n∉l.take i)) (fun i=>[(8,vI i)]) (fun i=>[]) (fun i=>l.length-i) 0 ⟨by omega,?_⟩ ?_ fun i hi=>?_
 ·simp
 ·exact .oA [] []
 simp only[tZ,↓un_u,simprocAttr,AZ,Ay];refine⟨fun h=>?_,fun h=>?_⟩
 ·have hi2:i<l.length:=by omega
  have hwi:=qk (i:=i) (by omega);simp only[tZ,↓un_u,simprocAttr,Ax,qe hi2,hwi,AY,Ak];refine⟨by omega,fun h3=>?_,fun h3=>⟨i+1,⟨by omega,?_⟩,by omega,?_⟩⟩
  ·have hm:n∈l:=by rw[h3];exact AX hi2
   rw[ji5,Aj hm,jF6 hi2 hi.2 h3.symm];exact .imR rfl rfl
  ·rw[qM hi2,Dz];rintro (h4 | h4)
   ·exact hi.2 h4
   ·simp at h4;exact h3 h4
  ·exact .oA [] []
 ·have h2:i=l.length:=by omega
  have h3:=hi.2;rw[h2,Bw] at h3;rw[ji5,Aq h3];exact .imR rfl rfl
theorem wD (l:List Int) (n:Int) (hl:l.length<4611686018427387904):Spc Tryz.prog zL [vIs l,vI n] [] (vB (l.contains n)) []:=by
 refine qd qh5 mixm (by simp) fun e _ hst=>qh ?_;unfold kQ;refine sW ?_;refine C1.im (qH6 l n hl) rfl (by rfl) ?_;refine sW ?_;refine .imR ?_ rfl;unfold ji5;by_cases h:n∈l
 ·rw[Aj h,FQ.2 h];simp
 ·rw[Aq h];cases hc:l.contains n
  ·simp
  ·exact absurd (FQ.1 hc) h
end Go.Proofs
