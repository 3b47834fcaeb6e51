/- A part of the proof: trees of Go values, short forms, contracts. -/
import Derived.WalkKit
import Derived.Still
import Derived.MapKept
import GoSem.Builtin.Cap
import Derived.Laws.Externs
import GoSem.Extern.SlicesOverlaps
import Derived.Carry
import Derived.ProofKit
import Derived.OpenShut
import Derived.HandedShaped
import Derived.Lay
import Derived.LaidLaws
import Derived.MakeChecks
import Derived.SevenTiedAt
import Derived.Test.YtnfagfikoblhfaaGreatDoorChecked
import Derived.Test.YtnfagfikoblhfaaGreatDoorK19
set_option linter.unusedSimpArgs false
set_option linter.unusedVariables false
namespace Go.Proofs
open Go Go.TL
set_option maxRecDepth 4000
set_option maxHeartbeats 8000000
theorem jU9:Kg cnd0 cnd0=true:=by decide +kernel
theorem qH9 {s:Sch} {nm:ByteArray} {c:Cnd} {ds:List Pk} {m:Int} (hE:schE s=0) (h1:zT nm=true) (h2:chkC s c=0) (h3:Zv s ds=0) (h4:m = -1∨isB s m 3=true):qstE s ⟨nm,1,c,ds,m,[],cnd0⟩=0:=by
 have hp:kr s ⟨nm,1,c,ds,m,[],cnd0⟩=0:=by
  rw[kr,Aj rfl,Aq (by rw[h3];simp),Aq];rintro ⟨a,b⟩;rcases h4 with h | h
  ·exact a h
  ·rw[h] at b;cases b
 rw[qstE,Aq (by rw[hE];simp),Aq (by rw[h1];simp),Aq sMp,Aq (by rw[h2];simp),Aq (by rw[hp];simp),Aq (by rw[jU9];simp)]
theorem jB8 {s:Sch} {nm:ByteArray} {c:Cnd} {ts:List Int} {m:Int} (hE:schE s=0) (h1:zT nm=true) (h2:chkC s c=0) (h3:kJ s m ts=0) (h4:isB s m 3=true):qstE s ⟨nm,2,c,[],m,ts,cnd0⟩=0:=by
 have hp:kr s ⟨nm,2,c,[],m,ts,cnd0⟩=0:=by
  rw[kr,Aq sMp,Aj rfl,Aq (by rw[h4];simp)];exact h3
 rw[qstE,Aq (by rw[hE];simp),Aq (by rw[h1];simp),Aq sMp,Aq (by rw[h2];simp),Aq (by rw[hp];simp),Aq (by rw[jU9];simp)]
theorem jB9 {s:Sch} {nm:ByteArray} {c d:Cnd} {m:Int} (hE:schE s=0) (h1:zT nm=true) (h2:chkC s c=0) (h3:chkC s d=0) (h4:isB s m 3=true) (h5:0≤(qj s m.toNat).low):qstE s ⟨nm,3,c,[],m,[],d⟩=0:=by
 have hp:kr s ⟨nm,3,c,[],m,[],d⟩=0:=by
  rw[kr,Aq sMp,Aq sMp,Aq (by rw[h4];simp),Aq (by dsimp only;omega)];exact h3
 rw[qstE,Aq (by rw[hE];simp),Aq (by rw[h1];simp),Aq sMp,Aq (by rw[h2];simp),Aq (by rw[hp];simp),Aq sMp]
theorem CndOk.mono {s:Sch} {n m:Nat} {c:Cnd} (h:CndOk s n c) (hn:n≤m):CndOk s m c:=by
 have h1:=h.dep;have h2:=h.siz;have h3:2 ^ (n+1)≤2 ^ (m+1):=Nat.pow_le_pow_right oM oM;exact⟨h.ok,oM,oM⟩
theorem WA (s:Sch) (hd:DrS s) (nm:ByteArray) (hnm:zT nm=true) (l:List UInt8) (a:Nat) (hl:l.length≤400) (ha:a≤l.length) :
 ∃ r:Qst×Nat,((qstE s r.1=0∧r.1.name=nm∧CndOk s 2 r.1.filt)∧r.2≤l.length)∧Spc Tryz.prog 58 [.ptr 0 1 0 0,schT s,vS nm] [(0,oC l a)] (qstT r.1) [(0,oC l r.2)]:=by
 have hE:=hd.ok;have hok:=qV hE;have hnc:=hok.nc;have hat:∀ i (h:i<s.cols.length),qj s i=s.cols[i]:=fun i h=>by rw[qj,qg h]
 obtain⟨j,a1,j1,j2,ha1,sN⟩:=jZ l a 3 hl ha oM;obtain⟨D,rfl⟩:=AJ j1;obtain⟨⟨c,a2⟩,⟨hc,ha2⟩,sC⟩:=yI s hd l hl D a1 ha1 oM;dsimp only at hc ha2 sC;have hcf:=hc.chk hE oM;have hcm:=hc.mono (m:=2) oM;obtain⟨v,a3,hv,ha3,sV⟩:=yH s hd l a2 hl ha2;obtain⟨_,v2,v3⟩:=zl.1 hv;rw[Ax] at v3;have hil:v<s.cols.length:=by omega
 obtain⟨w,a4,w1,w2,ha4,sK⟩:=jZ l a3 4 hl ha3 oM;refine zw Wn mixm (fun r:Qst×Nat=>qstT r.1) (fun r=>[(0,oC l r.2)]) sMp ?_;unfold jC;refine sW ?_;refine XE.mp (fun _ _=>C1.draw 0 l a _ sN rfl rfl rfl) ?_;refine sW ?_;refine XE.mp (fun _ _=>C1.draw 0 l a1 _ sC rfl rfl rfl) ?_;refine sW ?_;refine XE.sd kR ?_;refine XE.mp (fun _ _=>C1.draw 0 l a2 _ sV rfl rfl rfl) ?_;refine sW ?_;refine XE.mp (fun _ _=>C1.draw 0 l a3 _ sK rfl rfl rfl) ?_;simp only[tZ,↓un_u,simprocAttr,AY,Ak];refine XE.brN (fun h1=>?_) (fun h1=>XE.brN (fun h2=>?_) (fun h2=>XE.brN (fun h3=>?_) (fun h3=>?_)))
 ·obtain⟨⟨ds,b2⟩,⟨hds,hb2⟩,sQ⟩:=ki s hd l a4 hl ha4;dsimp only at hds hb2 sQ;refine XE.mp (fun _ _=>C1.draw 0 l a4 _ sQ rfl rfl rfl) ?_;refine sW ?_;refine XE.fin (⟨nm,1,c,ds,v,[],cnd0⟩,b2) ⟨⟨qH9 hE hnm hcf hds (.inr hv),rfl,hcm⟩,hb2⟩ fun e ⟨_,hst⟩=>?_;exact .oA [(0,some 0)] []
 ·obtain⟨⟨ts,a5⟩,⟨⟨ht1,ht2⟩,ha5⟩,sT⟩:=qr3 s hd v l a4 hl ha4;dsimp only at ht1 ht2 ha5 sT;refine XE.mp (fun _ _=>C1.draw 0 l a4 _ sT rfl rfl rfl) ?_;simp only[tZ,↓un_u,simprocAttr,AZ,Ay];refine XE.brN (fun h3=>?_) (fun h3=>?_)
  ·refine XE.fin (⟨nm,2,c,[],v,ts,cnd0⟩,a5) ⟨⟨jB8 hE hnm hcf (ht2 oM) hv,rfl,hcm⟩,ha5⟩ fun e ⟨_,hst⟩=>?_;exact .oA [(0,some 0)] []
  ·obtain⟨⟨ds,b2⟩,⟨hds,hb2⟩,sQ⟩:=ki s hd l a5 hl ha5;dsimp only at hds hb2 sQ;refine XE.mp (fun _ _=>C1.draw 0 l a5 _ sQ rfl rfl rfl) ?_;refine sW ?_;refine XE.fin (⟨nm,1,c,ds,-1,[],cnd0⟩,b2) ⟨⟨qH9 hE hnm hcf hds (.inl rfl),rfl,hcm⟩,hb2⟩ fun e ⟨_,hst⟩=>?_;exact .oA [(0,some 0)] []
 ·simp only[tZ,↓un_u,simprocAttr,Ax,qd hil,AZ,Ay];refine XE.sd oM ?_;refine XE.brN (fun h4=>?_) (fun h4=>?_)
  ·obtain⟨⟨d,a5⟩,⟨hdc,ha5⟩,sE⟩:=yI s hd l hl 1 a4 ha4 oM;dsimp only at hdc ha5 sE;refine XE.mp (fun _ _=>C1.draw 0 l a4 _ sE rfl rfl rfl) ?_;refine sW ?_;refine XE.fin (⟨nm,3,c,[],v,[],d⟩,a5) ⟨⟨jB9 hE hnm hcf (hdc.chk hE oM) hv (by rw[Ax,hat v hil];omega),rfl,hcm⟩,ha5⟩ fun e ⟨_,hst⟩=>?_;exact .oA [(0,some 0)] []
  ·obtain⟨⟨ds,b2⟩,⟨hds,hb2⟩,sQ⟩:=ki s hd l a4 hl ha4;dsimp only at hds hb2 sQ;refine XE.mp (fun _ _=>C1.draw 0 l a4 _ sQ rfl rfl rfl) ?_;refine sW ?_;refine XE.fin (⟨nm,1,c,ds,-1,[],cnd0⟩,b2) ⟨⟨qH9 hE hnm hcf hds (.inl rfl),rfl,hcm⟩,hb2⟩ fun e ⟨_,hst⟩=>?_;exact .oA [(0,some 0)] []
 ·obtain⟨⟨ds,b2⟩,⟨hds,hb2⟩,sQ⟩:=ki s hd l a4 hl ha4;dsimp only at hds hb2 sQ;refine XE.mp (fun _ _=>C1.draw 0 l a4 _ sQ rfl rfl rfl) ?_;refine sW ?_;refine XE.fin (⟨nm,1,c,ds,-1,[],cnd0⟩,b2) ⟨⟨qH9 hE hnm hcf hds (.inl rfl),rfl,hcm⟩,hb2⟩ fun e ⟨_,hst⟩=>?_;exact .oA [(0,some 0)] []
theorem je (s:Sch) (hd:DrS s) (nm:ByteArray) (hnm:zT nm=true) (l:List UInt8) (a:Nat) (hl:l.length≤400) (ha:a≤l.length) :
 ∃ r:Qst×Nat,((qstE s r.1=0∧r.1.name=nm)∧r.2≤l.length)∧Spc Tryz.prog 58 [.ptr 0 1 0 0,schT s,vS nm] [(0,oC l a)] (qstT r.1) [(0,oC l r.2)]:=by
 obtain⟨r,⟨⟨h1,h2,_⟩,h3⟩,h⟩:=WA s hd nm hnm l a hl ha;exact⟨r,⟨⟨h1,h2⟩,h3⟩,h⟩
end Go.Proofs
namespace Go.Proofs
open Go Go.TL
set_option maxRecDepth 4000
set_option maxHeartbeats 8000000
theorem nm_p:∀ n:Nat,n<10→zT ⟨#[112,dgt n]⟩=true∧zT ⟨#[113,dgt n]⟩=true:=by
 have:∀ n:Fin 10,zT ⟨#[112,dgt n.1]⟩=true∧zT ⟨#[113,dgt n.1]⟩=true:=by decide +kernel
 exact fun n h=>this ⟨n,h⟩
theorem jV0:∀ i j:Nat,i<10→j<10→i≠j→eqB ⟨#[113,dgt i]⟩ ⟨#[113,dgt j]⟩=false:=by
 have:∀ i j:Fin 10,i.1≠j.1→eqB ⟨#[113,dgt i.1]⟩ ⟨#[113,dgt j.1]⟩=false:=by decide +kernel
 exact fun i j hi hj h=>this ⟨i,hi⟩ ⟨j,hj⟩ h
def qG2:ByteArray:=⟨#[115,114,99]⟩
theorem jV1:zT qG2=true:=by decide +kernel
abbrev dcl0:Dcl:=⟨⟨#[]⟩,⟨#[]⟩,cnd0,⟨0,0,0⟩,[]⟩
theorem jV2 {s:Sch} {P:Nat} {c:Cnd} {x:Smp} {qs:List Qst} {N:Nat} (hE:schE s=0) (hP:P<10) (hc:chkC s c=0) (hx:smpE x=0) (h1:1≤qs.length) (hN:qs.length=N) (hN3:N≤3) (hq:∀ i (h:i<qs.length),qstE s qs[i]=0∧qs[i].name=⟨#[113,dgt (N-i)]⟩) :
 dclE s ⟨⟨#[112,dgt P]⟩,qG2,c,x,qs⟩=0:=by
 rw[dclE,Aq (by rw[hE];simp),Aq (by rw[(nm_p P hP).1,jV1];simp),Aq (by rw[hc];simp),Aq (by rw[hx];simp),Aq (by dsimp only;omega)];refine Kh fun i hi=>?_;have hi:i<qs.length:=hi;have hpi:qAt qs i=qs[i]:=by rw[qAt,qg hi]
 obtain⟨a,b⟩:=hq i hi;rw[qsE,hpi,Aq (by rw[a];simp),Aq];intro k;obtain⟨x,hx,e⟩:=DJ.1 k;obtain⟨j,hj,rfl⟩:=List.mem_take_iff_getElem.1 hx;have hj2:j<i∧j<qs.length:=by have:j<min i qs.length:=hj;omega
 rw[b,(hq j oM).2,jV0 (N-j) (N-i) oM oM oM] at e;cases e
structure DrD (s:Sch) (d:Dcl):Prop where
 len:d.qs.length≤3
 nm:∀ q∈d.qs,∃ n,n<10∧q.name=⟨#[113,dgt n]⟩
 coh:CndOk s 1 d.coh
theorem zp1 {s:Sch} {P:Nat} {c:Cnd} {x:Smp} {qs:List Qst} {N:Nat} (hE:schE s=0) (hP:P<10) (hco:CndOk s 1 c) (hc:chkC s c=0) (hx:smpE x=0) (h1:1≤qs.length) (hN:qs.length=N) (hN3:N≤3) (hq:∀ i (h:i<qs.length),qstE s qs[i]=0∧qs[i].name=⟨#[113,dgt (N-i)]⟩) :
 dclE s ⟨⟨#[112,dgt P]⟩,qG2,c,x,qs⟩=0∧DrD s ⟨⟨#[112,dgt P]⟩,qG2,c,x,qs⟩:=
 ⟨jV2 hE hP hc hx h1 hN hN3 hq,by dsimp only;omega,fun q hq2=>by
   obtain⟨i,hi,rfl⟩:=CX hq2;exact⟨N-i,oM,(hq i hi).2⟩,hco⟩
theorem JP (s:Sch) (hd:DrS s) (l:List UInt8) (a:Nat) (hl:l.length≤400) (ha:a≤l.length) :
 ∃ r:Dcl×Nat,((dclE s r.1=0∧DrD s r.1)∧r.2≤l.length)∧Spc Tryz.prog 12 [.ptr 0 1 0 0,schT s] [(0,oC l a)] (dclT r.1) [(0,oC l r.2)]:=by
 have hE:=hd.ok;have hok:=qV hE;obtain⟨p,a1,p1,p2,ha1,sP⟩:=jZ l a 3 hl ha oM;obtain⟨P,rfl⟩:=AJ p1;have hIt:=qq9 P oM;obtain⟨⟨c0,a2⟩,⟨hc0,ha2⟩,sC⟩:=yI s hd l hl 1 a1 ha1 oM;dsimp only at hc0 ha2 sC;have hcf0:=hc0.chk hE oM;have hca:chkC s (.mk 1 0 0 0 0 [])=0:=(wi (s:=s) 1 (qR7 s) rfl).chk hE oM;obtain⟨sd,a3,sd1,sd2,ha3,sS⟩:=jZ l a2 999 hl ha2 oM;obtain⟨o1,a4,ha4,sO⟩:=jr5 l a3 3 hl ha3 oM;obtain⟨o2,a5,ha5,sO2⟩:=jr5 l a4 3 hl ha4 oM;obtain⟨f,a6,f1,f2,ha6,sF⟩:=JN l a5 2 5 hl ha5 oM oM;obtain⟨g,a7,g1,g2,ha7,sG⟩:=JN l a6 1 f hl ha6 oM oM;obtain⟨ra,ba,ra1,ra2,hba,sRa⟩:=JN l a5 1 3 hl ha5 oM oM;obtain⟨Na,rfl⟩:=AJ (show 0≤ra by omega);obtain⟨rb,bb,rb1,rb2,hbb,sRb⟩:=JN l a7 1 3 hl ha7 oM oM;obtain⟨Nb,rfl⟩:=AJ (show 0≤rb by omega);refine zw ZW mixm (fun r:Dcl×Nat=>dclT r.1) (fun r=>[(0,oC l r.2)]) sMp ?_;unfold jf;refine sW ?_;refine XE.mp (fun _ _=>C1.draw 0 l a _ sP rfl rfl rfl) ?_;refine sW ?_;refine XE.mp (fun _ _=>C1.im hIt rF rF) ?_;simp only[tZ,↓un_u,simprocAttr,qq8];refine XE.sd (show 1+1≤9223372036854775807 by omega) ?_;refine XE.mp (fun _ _=>C1.draw 0 l a1 _ sC rfl rfl rfl) ?_;refine sW ?_;refine XE.mp (fun _ _=>C1.draw 0 l a2 _ sS rfl rfl rfl) ?_;refine sW ?_;refine XE.sd kR ?_;refine XE.mp (fun _ _=>C1.draw 0 l a3 _ sO rfl rfl rfl) ?_;refine sW ?_;apply XE.brB
 ·intro h1;refine XE.mp (fun _ _=>C1.draw 0 l a4 _ sO2 rfl rfl rfl) ?_;refine sW ?_;apply XE.brB
  focus
   intro h2;refine XE.mp (fun _ _=>C1.draw 0 l a5 _ sF rfl rfl rfl) ?_;refine sW ?_;refine XE.mp (fun _ _=>C1.draw 0 l a6 _ sG rfl rfl rfl) ?_;refine sW ?_;refine XE.mp (fun _ _=>C1.draw 0 l a7 _ (sRb) rfl rfl rfl) ?_;refine sW ?_;refine XE.loopF mixm [6,19,23] (fun y:List Qst×Nat=>y.1.length≤Nb∧(∀ i (h:i<y.1.length),qstE s y.1[i]=0∧y.1[i].name=⟨#[113,dgt (Nb-i)]⟩)∧y.2≤l.length) (fun y=>[(6,vI ((Nb-y.1.length:Nat):Int))]) (fun y=>[(0,oC l y.2),(4096,.arr 2 [schT s] false),(4100,.arr 12 [dclT dcl0] false),(8236,.arr 12 [.agg [vS ⟨#[112,dgt P]⟩,vS qG2,vI ((.mk 1 0 0 0 0 []):Cnd).op,vI ((.mk 1 0 0 0 0 []):Cnd).col,vI ((.mk 1 0 0 0 0 []):Cnd).code,vI ((.mk 1 0 0 0 0 []):Cnd).lo,vI ((.mk 1 0 0 0 0 []):Cnd).hi,vCs ((.mk 1 0 0 0 0 []):Cnd).kids,vI g,vI f,vI sd,.asl 1 y.1.length]] false),(1,.arr 17 (y.1.map qstT) false)]) (fun y=>Nb-y.1.length) ([],bb) ⟨sMp,fun i h=>by simp at h,hbb⟩ (fun e ⟨_,hst⟩=>?_) fun T' y hy ih=>?_
   ·exact .oA [(0,some 0),(4096,some 4096),(4100,some 4100),(8236,some 8236),(1,none)] []
   obtain⟨qs,a8⟩:=y;obtain⟨y1,y2,y3⟩:=hy;dsimp only at y1 y2 y3;simp only[tZ,↓un_u,simprocAttr,AZ,Ay];refine XE.brN (fun h4=>?_) (fun h4=>?_)
   ·have hlt:qs.length<Nb:=by omega
    have hI:=qq9 (Nb-qs.length) oM;obtain⟨⟨q,a9⟩,⟨⟨hq,hqn⟩,ha9⟩,sQ⟩:=je s hd ⟨#[113,dgt (Nb-qs.length)]⟩ (nm_p _ oM).2 l a8 hl y3;dsimp only at hq hqn ha9 sQ;have hwk:=zG (i:=Nb-qs.length) oM oM;refine XE.mp (fun _ _=>C1.im hI rF rF) ?_;simp only[tZ,↓un_u,simprocAttr,qq8];refine XE.sd (show 1+1≤9223372036854775807 by omega) ?_;refine XE.mp (fun _ _=>C1.draw 0 l a8 _ sQ rfl rfl rfl) ?_;simp only[tZ,↓un_u,simprocAttr,hwk];refine XE.sd oM (XE.sd kR ?_);refine XE.next ih (qs++[q],a9) ⟨by simp;omega,fun i h=>?_,ha9⟩ (by simp;omega) fun e ⟨_,hst⟩=>?_
    ·dsimp only at h ⊢
     by_cases hi:i<qs.length
     ·rw[List.getElem_append_left hi];exact y2 i hi
     ·have he:i=qs.length:=by rw[AW] at h;simp at h;omega
      subst he;rw[List.getElem_append_right (BZ _)];simpa using Az hq hqn
    ·have e1:Nb-(qs++[q]).length=Nb-qs.length-1:=by rw[AW];simp;omega
     simp only[e1];exact .oA [(0,some 0),(4096,some 4096),(4100,some 4100),(8236,some 8236),(1,some 1)] []
   ·refine XE.fin (⟨⟨#[112,dgt P]⟩,qG2,(.mk 1 0 0 0 0 []),⟨g,f,sd⟩,qs⟩,a8) ⟨zp1 hE oM (wi (s:=s) 1 (qR7 s) rfl) hca (by rw[smpE,Aq];dsimp only;omega) oM rfl oM (fun i h=>by have:=y2 i h;rwa [show Nb=qs.length by omega] at this),y3⟩ fun e ⟨_,hst⟩=>?_;exact .oA [(0,some 0)] [1]
  focus
   intro h2;refine XE.mp (fun _ _=>C1.draw 0 l a5 _ (sRa) rfl rfl rfl) ?_;refine sW ?_;refine XE.loopF mixm [6,19,23] (fun y:List Qst×Nat=>y.1.length≤Na∧(∀ i (h:i<y.1.length),qstE s y.1[i]=0∧y.1[i].name=⟨#[113,dgt (Na-i)]⟩)∧y.2≤l.length) (fun y=>[(6,vI ((Na-y.1.length:Nat):Int))]) (fun y=>[(0,oC l y.2),(4096,.arr 2 [schT s] false),(4100,.arr 12 [dclT dcl0] false),(8236,.arr 12 [.agg [vS ⟨#[112,dgt P]⟩,vS qG2,vI ((.mk 1 0 0 0 0 []):Cnd).op,vI ((.mk 1 0 0 0 0 []):Cnd).col,vI ((.mk 1 0 0 0 0 []):Cnd).code,vI ((.mk 1 0 0 0 0 []):Cnd).lo,vI ((.mk 1 0 0 0 0 []):Cnd).hi,vCs ((.mk 1 0 0 0 0 []):Cnd).kids,vI 1,vI 1,vI sd,.asl 1 y.1.length]] false),(1,.arr 17 (y.1.map qstT) false)]) (fun y=>Na-y.1.length) ([],ba) ⟨sMp,fun i h=>by simp at h,hba⟩ (fun e ⟨_,hst⟩=>?_) fun T' y hy ih=>?_
   ·exact .oA [(0,some 0),(4096,some 4096),(4100,some 4100),(8236,some 8236),(1,none)] []
   obtain⟨qs,a8⟩:=y;obtain⟨y1,y2,y3⟩:=hy;dsimp only at y1 y2 y3;simp only[tZ,↓un_u,simprocAttr,AZ,Ay];refine XE.brN (fun h4=>?_) (fun h4=>?_)
   ·have hlt:qs.length<Na:=by omega
    have hI:=qq9 (Na-qs.length) oM;obtain⟨⟨q,a9⟩,⟨⟨hq,hqn⟩,ha9⟩,sQ⟩:=je s hd ⟨#[113,dgt (Na-qs.length)]⟩ (nm_p _ oM).2 l a8 hl y3;dsimp only at hq hqn ha9 sQ;have hwk:=zG (i:=Na-qs.length) oM oM;refine XE.mp (fun _ _=>C1.im hI rF rF) ?_;simp only[tZ,↓un_u,simprocAttr,qq8];refine XE.sd (show 1+1≤9223372036854775807 by omega) ?_;refine XE.mp (fun _ _=>C1.draw 0 l a8 _ sQ rfl rfl rfl) ?_;simp only[tZ,↓un_u,simprocAttr,hwk];refine XE.sd oM (XE.sd kR ?_);refine XE.next ih (qs++[q],a9) ⟨by simp;omega,fun i h=>?_,ha9⟩ (by simp;omega) fun e ⟨_,hst⟩=>?_
    ·dsimp only at h ⊢
     by_cases hi:i<qs.length
     ·rw[List.getElem_append_left hi];exact y2 i hi
     ·have he:i=qs.length:=by rw[AW] at h;simp at h;omega
      subst he;rw[List.getElem_append_right (BZ _)];simpa using Az hq hqn
    ·have e1:Na-(qs++[q]).length=Na-qs.length-1:=by rw[AW];simp;omega
     simp only[e1];exact .oA [(0,some 0),(4096,some 4096),(4100,some 4100),(8236,some 8236),(1,some 1)] []
   ·refine XE.fin (⟨⟨#[112,dgt P]⟩,qG2,(.mk 1 0 0 0 0 []),⟨1,1,sd⟩,qs⟩,a8) ⟨zp1 hE oM (wi (s:=s) 1 (qR7 s) rfl) hca (by rw[smpE,Aq];dsimp only;omega) oM rfl oM (fun i h=>by have:=y2 i h;rwa [show Na=qs.length by omega] at this),y3⟩ fun e ⟨_,hst⟩=>?_;exact .oA [(0,some 0)] [1]
 ·intro h1;refine XE.mp (fun _ _=>C1.draw 0 l a4 _ sO2 rfl rfl rfl) ?_;refine sW ?_;apply XE.brB
  focus
   intro h2;refine XE.mp (fun _ _=>C1.draw 0 l a5 _ sF rfl rfl rfl) ?_;refine sW ?_;refine XE.mp (fun _ _=>C1.draw 0 l a6 _ sG rfl rfl rfl) ?_;refine sW ?_;refine XE.mp (fun _ _=>C1.draw 0 l a7 _ (sRb) rfl rfl rfl) ?_;refine sW ?_;refine XE.loopF mixm [6,19,23] (fun y:List Qst×Nat=>y.1.length≤Nb∧(∀ i (h:i<y.1.length),qstE s y.1[i]=0∧y.1[i].name=⟨#[113,dgt (Nb-i)]⟩)∧y.2≤l.length) (fun y=>[(6,vI ((Nb-y.1.length:Nat):Int))]) (fun y=>[(0,oC l y.2),(4096,.arr 2 [schT s] false),(4100,.arr 12 [dclT dcl0] false),(8236,.arr 12 [.agg [vS ⟨#[112,dgt P]⟩,vS qG2,vI (c0:Cnd).op,vI (c0:Cnd).col,vI (c0:Cnd).code,vI (c0:Cnd).lo,vI (c0:Cnd).hi,vCs (c0:Cnd).kids,vI g,vI f,vI sd,.asl 1 y.1.length]] false),(1,.arr 17 (y.1.map qstT) false)]) (fun y=>Nb-y.1.length) ([],bb) ⟨sMp,fun i h=>by simp at h,hbb⟩ (fun e ⟨_,hst⟩=>?_) fun T' y hy ih=>?_
   ·exact .oA [(0,some 0),(4096,some 4096),(4100,some 4100),(8236,some 8236),(1,none)] []
   obtain⟨qs,a8⟩:=y;obtain⟨y1,y2,y3⟩:=hy;dsimp only at y1 y2 y3;simp only[tZ,↓un_u,simprocAttr,AZ,Ay];refine XE.brN (fun h4=>?_) (fun h4=>?_)
   ·have hlt:qs.length<Nb:=by omega
    have hI:=qq9 (Nb-qs.length) oM;obtain⟨⟨q,a9⟩,⟨⟨hq,hqn⟩,ha9⟩,sQ⟩:=je s hd ⟨#[113,dgt (Nb-qs.length)]⟩ (nm_p _ oM).2 l a8 hl y3;dsimp only at hq hqn ha9 sQ;have hwk:=zG (i:=Nb-qs.length) oM oM;refine XE.mp (fun _ _=>C1.im hI rF rF) ?_;simp only[tZ,↓un_u,simprocAttr,qq8];refine XE.sd (show 1+1≤9223372036854775807 by omega) ?_;refine XE.mp (fun _ _=>C1.draw 0 l a8 _ sQ rfl rfl rfl) ?_;simp only[tZ,↓un_u,simprocAttr,hwk];refine XE.sd oM (XE.sd kR ?_);refine XE.next ih (qs++[q],a9) ⟨by simp;omega,fun i h=>?_,ha9⟩ (by simp;omega) fun e ⟨_,hst⟩=>?_
    ·dsimp only at h ⊢
     by_cases hi:i<qs.length
     ·rw[List.getElem_append_left hi];exact y2 i hi
     ·have he:i=qs.length:=by rw[AW] at h;simp at h;omega
      subst he;rw[List.getElem_append_right (BZ _)];simpa using Az hq hqn
    ·have e1:Nb-(qs++[q]).length=Nb-qs.length-1:=by rw[AW];simp;omega
     simp only[e1];exact .oA [(0,some 0),(4096,some 4096),(4100,some 4100),(8236,some 8236),(1,some 1)] []
   ·refine XE.fin (⟨⟨#[112,dgt P]⟩,qG2,c0,⟨g,f,sd⟩,qs⟩,a8) ⟨zp1 hE oM hc0 hcf0 (by rw[smpE,Aq];dsimp only;omega) oM rfl oM (fun i h=>by have:=y2 i h;rwa [show Nb=qs.length by omega] at this),y3⟩ fun e ⟨_,hst⟩=>?_;exact .oA [(0,some 0)] [1]
  focus
   intro h2;refine XE.mp (fun _ _=>C1.draw 0 l a5 _ (sRa) rfl rfl rfl) ?_;refine sW ?_;refine XE.loopF mixm [6,19,23] (fun y:List Qst×Nat=>y.1.length≤Na∧(∀ i (h:i<y.1.length),qstE s y.1[i]=0∧y.1[i].name=⟨#[113,dgt (Na-i)]⟩)∧y.2≤l.length) (fun y=>[(6,vI ((Na-y.1.length:Nat):Int))]) (fun y=>[(0,oC l y.2),(4096,.arr 2 [schT s] false),(4100,.arr 12 [dclT dcl0] false),(8236,.arr 12 [.agg [vS ⟨#[112,dgt P]⟩,vS qG2,vI (c0:Cnd).op,vI (c0:Cnd).col,vI (c0:Cnd).code,vI (c0:Cnd).lo,vI (c0:Cnd).hi,vCs (c0:Cnd).kids,vI 1,vI 1,vI sd,.asl 1 y.1.length]] false),(1,.arr 17 (y.1.map qstT) false)]) (fun y=>Na-y.1.length) ([],ba) ⟨sMp,fun i h=>by simp at h,hba⟩ (fun e ⟨_,hst⟩=>?_) fun T' y hy ih=>?_
   ·exact .oA [(0,some 0),(4096,some 4096),(4100,some 4100),(8236,some 8236),(1,none)] []
   obtain⟨qs,a8⟩:=y;obtain⟨y1,y2,y3⟩:=hy;dsimp only at y1 y2 y3;simp only[tZ,↓un_u,simprocAttr,AZ,Ay];refine XE.brN (fun h4=>?_) (fun h4=>?_)
   ·have hlt:qs.length<Na:=by omega
    have hI:=qq9 (Na-qs.length) oM;obtain⟨⟨q,a9⟩,⟨⟨hq,hqn⟩,ha9⟩,sQ⟩:=je s hd ⟨#[113,dgt (Na-qs.length)]⟩ (nm_p _ oM).2 l a8 hl y3;dsimp only at hq hqn ha9 sQ;have hwk:=zG (i:=Na-qs.length) oM oM;refine XE.mp (fun _ _=>C1.im hI rF rF) ?_;simp only[tZ,↓un_u,simprocAttr,qq8];refine XE.sd (show 1+1≤9223372036854775807 by omega) ?_;refine XE.mp (fun _ _=>C1.draw 0 l a8 _ sQ rfl rfl rfl) ?_;simp only[tZ,↓un_u,simprocAttr,hwk];refine XE.sd oM (XE.sd kR ?_);refine XE.next ih (qs++[q],a9) ⟨by simp;omega,fun i h=>?_,ha9⟩ (by simp;omega) fun e ⟨_,hst⟩=>?_
    ·dsimp only at h ⊢
     by_cases hi:i<qs.length
     ·rw[List.getElem_append_left hi];exact y2 i hi
     ·have he:i=qs.length:=by rw[AW] at h;simp at h;omega
      subst he;rw[List.getElem_append_right (BZ _)];simpa using Az hq hqn
    ·have e1:Na-(qs++[q]).length=Na-qs.length-1:=by rw[AW];simp;omega
     simp only[e1];exact .oA [(0,some 0),(4096,some 4096),(4100,some 4100),(8236,some 8236),(1,some 1)] []
   ·refine XE.fin (⟨⟨#[112,dgt P]⟩,qG2,c0,⟨1,1,sd⟩,qs⟩,a8) ⟨zp1 hE oM hc0 hcf0 (by rw[smpE,Aq];dsimp only;omega) oM rfl oM (fun i h=>by have:=y2 i h;rwa [show Na=qs.length by omega] at this),y3⟩ fun e ⟨_,hst⟩=>?_;exact .oA [(0,some 0)] [1]
theorem Kk (s:Sch) (hd:DrS s) (l:List UInt8) (a:Nat) (hl:l.length≤400) (ha:a≤l.length) :
 ∃ r:Dcl×Nat,(dclE s r.1=0∧r.2≤l.length)∧Spc Tryz.prog 12 [.ptr 0 1 0 0,schT s] [(0,oC l a)] (dclT r.1) [(0,oC l r.2)]:=by
 obtain⟨r,⟨⟨h1,_⟩,h2⟩,h⟩:=JP s hd l a hl ha;exact⟨r,⟨h1,h2⟩,h⟩
theorem jC0 (l:List UInt8) (a:Nat) (hl:l.length≤400) (ha:a≤l.length) :
 ∃ (k:Int) (b:Nat),0≤k∧k<1152921504606846976∧b≤l.length∧Spc Tryz.prog 28 [.ptr 0 1 0 0] [(0,oC l a)] (vI k) [(0,oC l b)]:=by
 obtain⟨u,a1,u1,u2,ha1,s1⟩:=jZ l a 60000 hl ha oM;obtain⟨v,a2,v1,v2,ha2,s2⟩:=jZ l a1 60000 hl ha1 oM;obtain⟨w,a3,w1,w2,ha3,s3⟩:=jZ l a2 7 hl ha2 oM;have h1:0≤u*v:=Int.mul_nonneg u1 v1;have h2:u*v≤60000*60000:=Int.mul_le_mul oM oM v1 oM;refine⟨u*v+w,a3,oM,oM,ha3,?_⟩;have hw1:IntKind.i64.wrap (u*v)=u*v:=AK _ oM;have hw2:IntKind.i64.wrap (u*v+w)=u*v+w:=AK _ oM;refine sIr qa6 fun e _ hst=>?_;unfold ky;refine sW ?_;refine C1.draw 0 l a _ s1 rfl rfl rfl ?_;refine sW ?_;refine C1.draw 0 l a1 _ s2 rfl rfl rfl ?_;simp only[tZ,↓un_u,simprocAttr,hw1];refine C1.draw 0 l a2 _ s3 rfl rfl rfl ?_;simp only[tZ,↓un_u,simprocAttr,hw1,hw2];exact .oA [(0,some 0)] []
end Go.Proofs
namespace Go.Proofs
open Go Go.TL
theorem ka (s:ByteArray):Spc Tryz.prog 100 [vS s] [] (vB (zT s)) []:=by
 refine sIr zk5 fun e _ hst=>?_;unfold KG;refine sW ?_;refine⟨fun h=>?_,fun h=>?_,fun h=>?_,fun h=>?_⟩
 ·simp at h;omega
 ·simp at h;omega
 ·have:zT s=false:=by unfold zT zJ4;rw[h];rfl
  rw[this];exact .oA [] []
 have hd:zJ4 s=false:=h;have hs16:s.data.toList.length≤16:=by
  unfold zJ4 at hd;simp only[FX,Ay] at hd;have:s.size=s.data.toList.length:=by rw[Array.length_toList];rfl
  omega
 refine qk mixm (α:=Nat) [26] (fun i=>i≤s.data.toList.length∧((s.data.toList.take i).any qP4=false)) (fun i=>[(26,vI i)]) (fun i=>[]) (fun i=>s.data.toList.length-i) 0 ⟨oM,?_⟩ ?_ fun i hi=>?_
 ·rfl
 ·exact .oA [] []
 refine sD ?_;refine⟨fun h5=>?_,fun h5=>?_⟩
 ·have hi2:i<s.data.toList.length:=by omega
  have hwi:=qh (i:=i) oM;simp only[tZ,↓un_u,simprocAttr,Ax,qd hi2,hwi,yf];refine⟨oM,fun h6=>?_,fun h6=>?_⟩
  ·have hb:qP4 s.data.toList[i]=true:=h6;have:zT s=false:=by
    unfold zT;rw[show s.data.toList.any qP4=true from DJ.2 ⟨_,AX hi2,hb⟩];simp
   rw[this];exact .oA [] []
  ·have hb:qP4 s.data.toList[i]=false:=h6;refine⟨i+1,⟨oM,jr hi2 hi.2 hb⟩,oM,?_⟩;exact .oA [] []
 ·have h3:=hi.2;have:i=s.data.toList.length:=by omega
  rw[this,Bw] at h3;have hn:zT s=!(resW.contains s.toList):=by unfold zT;rw[hd,h3];rfl
  rw[hn];simp only[resW,List.contains_cons,List.contains_nil]
  repeat' (first | with_reducible apply Az | with_reducible intro _)
  all_goals first
   | (exfalso;simp_all;done)
   | (simp only[*,Bool.true_or,Bool.or_true,Bool.false_or,Bool.or_false,Bool.not_true,Bool.not_false];exact .imR rfl rfl)
end Go.Proofs
namespace Go.Proofs
open Go Go.TL
set_option maxHeartbeats 8000000
def depL (cs:List Cod):List Int:=(List.range cs.length).map fun i=>(dep cs i:Int)
def depO (cs:List Cod) (i:Nat):List Int:=((List.range i).map fun i=>(dep cs i:Int))++List.replicate (cs.length-i) 0
theorem YT (cs:List Cod):(depL cs).length=cs.length:=by simp [depL]
theorem jC1 {cs:List Cod} {i:Nat} (h:i≤cs.length):(depO cs i).length=cs.length:=by simp [depO];omega
theorem js0 (cs:List Cod):depO cs 0=List.replicate cs.length 0:=by simp [depO]
theorem jC2 (cs:List Cod):depO cs cs.length=depL cs:=by simp [depO,depL]
theorem jC3 {cs:List Cod} {i:Nat} (h:i<cs.length) (v:Int) (hv:v=dep cs i):(depO cs i).set i v=depO cs (i+1):=by
 unfold depO;rw[List.set_append_right _ _ sMp,BY,List.length_range,Nat.sub_self,show cs.length-i=(cs.length-(i+1))+1 by omega,List.replicate_succ,List.set_cons_zero,List.range_succ,By,Dj,hv]
 rfl
theorem js1 {cs:List Cod} {i:Nat} (h:i<cs.length) (h0:dep cs i=0):depO cs i=depO cs (i+1):=by
 unfold depO;rw[show cs.length-i=(cs.length-(i+1))+1 by omega,List.replicate_succ,List.range_succ,By,Dj,List.map_cons,h0]
 rfl
theorem jP0 {cs:List Cod} {i k:Nat} (h:k<i) (hi:i≤cs.length):(depO cs i).getD k 0=dep cs k:=by
 unfold depO;rw[CY,BK (by simp;omega),DY,List.getElem?_range oM]
 rfl
theorem jK0 (n:Nat):List.replicate n (T.v (Value.int IntKind.i64 0))=(List.replicate n (0:Int)).map vI:=by simp
structure ParR (cs:List Cod):Prop where
 ok:qF8 cs
 kid:∀ i,0<i→i<cs.length→0≤parC cs i
 root:parC cs 0<0∨cs.length=0
 len:cs.length≤60
theorem kL (l:CodL) (h:ParR l.codes):Spc Tryz.prog 217 [cdlT l] [] (vIs (depL l.codes)) []:=by
 have hl:=h.len;refine sIr qP1 fun e _ hst=>?_;unfold Zr;refine sW ?_;refine⟨oM,?_⟩;refine qk mixm (α:=Nat) [13] (fun i=>i≤l.codes.length) (fun i=>[(13,vI i)]) (fun i=>[(4096,.arr 2 [cdlT l] false),(8204,.arr 1 ((depO l.codes i).map vI) false)]) (fun i=>l.codes.length-i) 0 oM ?_ fun i hi=>?_
 ·rw[js0];refine .of [(4096,some 4096),(8204,some 8204)] [] rfl (by first | rfl | (rw[hst];rfl)) ?_ ?_
  all_goals (try simp only[tL,simprocAttr,By,List.map_cons,List.map_nil,BW,Cy,Ax,jK0])
  all_goals (try (repeat' (first | exact qZ | (apply zk;intro _;exact⟨rfl,rfl⟩) | (apply qA;intro _;exact⟨rfl,rfl⟩) | with_reducible apply qW | with_reducible refine qQ ⟨rfl,rfl⟩ ?_ | exact qY | with_reducible apply qR | with_reducible refine qX ⟨rfl,rfl,?_⟩ ?_ | with_reducible apply Az | exact qS rfl | exact qS (by assumption) | (refine⟨⟨?_,rfl,?_,rfl,?_⟩,trivial⟩ <;> first | (simp;done) | (apply qA;intro _;exact⟨rfl,rfl⟩)) | trivial | rfl | (rw[qh oM]) | omega)))
 have hol:=jC1 (cs:=l.codes) hi;refine sD ?_;refine⟨fun h2=>?_,fun h2=>?_⟩
 ·have hi2:i<l.codes.length:=by omega
  have hwi:=qh (i:=i) oM;have hp:=h.ok i hi2;have hat:cdAt l.codes i=l.codes[i]:=by rw[cdAt,qg hi2]
  have hpar:l.codes[i].par=parC l.codes i:=by rw[parC,hat]
  simp only[tZ,↓un_u,simprocAttr,Ax,qd hi2,hpar,gt_iff_lt,tD];refine⟨oM,fun h4=>?_,fun h4=>?_⟩
  ·have hk:=h.kid i oM hi2;have hdk:=qw5 h.ok hi2 hk;obtain⟨q,hq⟩:=AJ hk;have hqi:q<i:=by omega
   have hq3:q<(depO l.codes i).length:=by omega
   have hq4:(depO l.codes i)[q]=dep l.codes q:=by
    have:=jP0 (cs:=l.codes) hqi hi;rw[qg hq3] at this;exact this
   have hdl:=qB0 h.ok q oM;have hwd:=qh (i:=dep l.codes q) oM;rw[hq,Ax] at hdk;have hi3:i<(depO l.codes i).length:=by omega
   have hset:=jC3 hi2 ((dep l.codes q+1:Nat):Int) (by rw[hdk]);simp only[tZ,↓un_u,simprocAttr,hq,Ax,qd hq3,qd hi3,hq4,hwd,hwi,show ∀ a b:Int,repl (vI a) 0 (vI b)=vI b from fun _ _=>rfl];refine⟨oM,oM,oM,oM,i+1,oM,oM,?_⟩;rw[← List.map_set,hset];exact .oA [(4096,some 4096),(8204,some 8204)] []
  ·have hz:i=0:=by omega
   subst hz;have hr:=h.root.resolve_right oM;have hn:=js1 hi2 (qo9 hr);simp only[tZ,↓un_u,simprocAttr,hwi];refine⟨1,oM,oM,?_⟩;rw[← hn];exact .oA [(4096,some 4096),(8204,some 8204)] []
 ·have hil:i=l.codes.length:=by omega
  subst hil;rw[jC2,Ax];have hdl:=YT l.codes;exact .oA [] [8204]
def aboL (cs:List Cod) (i:Nat):List Bool:=(List.range cs.length).map fun (k:Nat)=>(cs.take i).any fun x=>x.par==(k:Int)
theorem Wa (cs:List Cod) (i:Nat):(aboL cs i).length=cs.length:=by simp [aboL]
theorem js2 (cs:List Cod):aboL cs 0=List.replicate cs.length false:=by
 rw[List.eq_replicate_iff];refine⟨Wa cs 0,fun b hb=>?_⟩;obtain⟨k,_,rfl⟩:=Cj.1 hb;simp
theorem qr4 {cs:List Cod} {i k:Nat} (h:k<(aboL cs i).length):(aboL cs i)[k]=(cs.take i).any fun x=>x.par==(k:Int):=by simp [aboL]
theorem js3 {cs:List Cod} {i:Nat} (h:i<cs.length) (hp:cs[i].par<0):aboL cs (i+1)=aboL cs i:=by
 refine List.ext_getElem (by rw[Wa,Wa]) fun k h1 h2=>?_;have h3:(cs[i].par==(k:Int))=false:=Ak.2 oM;rw[qr4,qr4,qH h,FW,List.any_cons,List.any_nil,h3];simp
theorem jC4 {cs:List Cod} {i p:Nat} (h:i<cs.length) (hp:cs[i].par=p):(aboL cs i).set p true=aboL cs (i+1):=by
 refine List.ext_getElem (by rw[Fw,Wa,Wa]) fun k h1 h2=>?_;rw[Fk,qr4,qr4,qH h,FW,List.any_cons,List.any_nil,hp];by_cases e:p=k
 ·subst e;simp
 ·have:((p:Int)==(k:Int))=false:=Ak.2 oM;rw[Aq e,this];simp
theorem jC5 {cs:List Cod} {k:Nat} (h:k<(aboL cs cs.length).length):(aboL cs cs.length)[k]=!qh8 cs k:=by
 rw[qr4,Bw,qh8,Bool.not_not]
theorem jV3 (n:Nat):List.replicate n (T.v (Value.bool false))=(List.replicate n false).map vB:=by simp
def zK1 (cs:List Cod):List (ByteArray×Bool):=cs.map fun c=>(c.name,true)
theorem zD6 {nm:ByteArray}:∀ {cs:List Cod},(TL.look TL.eqS nm (zK1 cs)).getD false=cs.any fun x=>eqB x.name nm
 | []=>rfl
 | c::cs=>by
   have h:TL.eqS nm c.name=eqB c.name nm:=by
    rw[Bool.eq_iff_iff,TL.eqS,eqB,AY,AY];exact⟨fun h=>h.symm,fun h=>h.symm⟩
   simp only[zK1,List.map_cons,TL.look,List.any_cons,h];cases eqB c.name nm with
   | true=>rfl
   | false=>rw[Aq sMp,Bool.false_or];exact zD6
theorem zW1 {c:Cod}:∀ {cs:List Cod},(cs.any fun x=>eqB x.name c.name)=false→TL.asg TL.eqS c.name true (zK1 cs)=zK1 (cs++[c])
 | [],_=>rfl
 | x::cs,h=>by
   rw[List.any_cons,FX] at h;have h1:TL.eqS c.name x.name=eqB x.name c.name:=by
    rw[Bool.eq_iff_iff,TL.eqS,eqB,AY,AY];exact⟨fun h=>h.symm,fun h=>h.symm⟩
   simp only[zK1,List.map_cons,TL.asg,h1,h.1,BW];rw[Aq sMp]
   congr 1
   exact zW1 h.2
theorem jV4 {cs:List Cod} (h:cdEs cs cs.length=0) (hl:cs.length≤60):ParR cs:=by
 refine⟨jJ7 h,fun i h0 hi=>(zm5 (qp0 h i hi)).2.2.2 h0,?_,hl⟩;rcases DQ cs.length with h0 | h0
 ·exact .inr h0
 ·have:=(zm5 (qp0 h 0 h0)).2.2.1 rfl;exact .inl oM
theorem qr5 {l:CodL} (h:lstE l=0):ParR l.codes:=by
 obtain⟨_,_,h3⟩:=ze h;refine jV4 ?_ h3;unfold lstE at h;split at h
 ·cases h
 ·split at h
  ·cases h
  ·split at h
   ·cases h
   ·split at h
    ·rename_i h2;exact absurd h h2
    ·rename_i h4;exact AQ h4
theorem QL (l:CodL):Spc Tryz.prog 167 [cdlT l] [] (vI (lstE l)) []:=by
 refine sIr qZ2 fun e _ hst=>?_;unfold Jz;refine sW ?_;refine C1.im (ka l.name) rF rF ?_;simp only[tZ,↓un_u,simprocAttr,Bx,Bz];refine⟨fun h=>?_,fun h1=>?_⟩
 ·rw[lstE,Aj h];exact .oA [] []
 simp only[tZ,↓un_u,simprocAttr,AY,Ak];refine⟨fun h=>?_,fun h2=>?_⟩
 ·rw[lstE,Aq (by rw[h1];simp),Aj oM];exact .oA [] []
 refine sD ?_;refine⟨fun h=>?_,fun h3=>?_⟩
 ·rw[lstE,Aq (by rw[h1];simp),Aq oM,Aj oM];exact .oA [] []
 have hE1:cdEs l.codes l.codes.length≠0→lstE l=cdEs l.codes l.codes.length:=fun h=>by
  rw[lstE,Aq (by rw[h1];simp),Aq oM,Aq oM,Aj h]
 have hE2:cdEs l.codes l.codes.length=0→lvs l.codes l.codes.length=none→lstE l=5:=fun h k=>by
  rw[lstE,Aq (by rw[h1];simp),Aq oM,Aq oM,Aq (by rw[h];simp),k]
 have hE3:∀ v,cdEs l.codes l.codes.length=0→lvs l.codes l.codes.length=some v→lstE l=0:=fun v h k=>by
  rw[lstE,Aq (by rw[h1];simp),Aq oM,Aq oM,Aq (by rw[h];simp),k]
 refine⟨oM,kR,?_⟩;refine qk mixm (α:=Nat) [33] (fun i=>i≤l.codes.length∧cdEs l.codes i=0) (fun i=>[(33,vI i)]) (fun i=>[(4096,.arr 2 [cdlT l] false),(32768,.mp (.sb (zK1 (l.codes.take i)))),(32784,.arr 1 ((aboL l.codes i).map vB) false)]) (fun i=>l.codes.length-i) 0 ⟨oM,rfl⟩ ?_ fun i hi=>?_
 ·simp only[List.take_zero,zK1,List.map_nil,js2];refine .of [(4096,some 4096),(32768,some 32768),(32784,some 32784)] [] rfl (by first | rfl | (rw[hst];rfl)) ?_ ?_
  all_goals (try simp only[tL,simprocAttr,By,List.map_cons,List.map_nil,BW,Cy,Ax,jV3])
  all_goals (try (repeat' (first | exact qZ | (apply zk;intro _;exact⟨rfl,rfl⟩) | (apply qA;intro _;exact⟨rfl,rfl⟩) | with_reducible apply qW | with_reducible refine qQ ⟨rfl,rfl⟩ ?_ | exact qY | with_reducible apply qR | with_reducible refine qX ⟨rfl,rfl,?_⟩ ?_ | with_reducible apply Az | exact qS rfl | exact qS (by assumption) | (refine⟨⟨?_,rfl,?_,rfl,?_⟩,trivial⟩ <;> first | (simp;done) | (apply qA;intro _;exact⟨rfl,rfl⟩)) | trivial | rfl | (rw[qh oM]) | omega)))
 obtain⟨i1,i2⟩:=hi;have hbl:=Wa l.codes i;refine sD ?_;refine⟨fun h4=>?_,fun h4=>?_⟩
 ·have hi2:i<l.codes.length:=by omega
  have hwi:=qh (i:=i) oM;have hat:cdAt l.codes i=l.codes[i]:=by rw[cdAt,qg hi2]
  have hs:cdEs l.codes (i+1)=cdE l.codes i:=by rw[cdEs,Aq (by rw[i2];simp)]
  have hbad:cdE l.codes i≠0→lstE l=cdE l.codes i:=fun hb=>by
   have:=zf4 (by rw[hs];exact hb) l.codes.length (show i+1≤l.codes.length by omega);rw[hE1 (by rw[this,hs];exact hb),this,hs]
  simp only[tZ,↓un_u,simprocAttr,Ax,qd hi2];refine⟨oM,?_⟩;refine C1.im (ka l.codes[i].name) rF rF ?_;simp only[tZ,↓un_u,simprocAttr,Bx,Bz,zD6];refine⟨fun h5=>?_,fun h5=>?_⟩
  ·have hc:cdE l.codes i=3:=by rw[cdE,hat,Aj h5]
   rw[hbad (by rw[hc];decide),hc];exact .oA [] []
  refine⟨fun h6=>?_,fun h6=>?_⟩
  ·have hc:cdE l.codes i=10:=by rw[cdE,hat,Aq (by rw[h5];simp),Aj h6]
   rw[hbad (by rw[hc];decide),hc];exact .oA [] []
  have hpar:l.codes[i].par=parC l.codes i:=by rw[parC,hat]
  have hcE:cdE l.codes i=if (i=0∧parC l.codes i≠-1)∨(0<i∧(parC l.codes i<0∨parC l.codes i≥i)) then 6 else 0:=by
   rw[cdE,hat,Aq (by rw[h5];simp),Aq (by rw[h6];simp)]
  have hasg:=zW1 (c:=l.codes[i]) (cs:=l.codes.take i) h6;rw[← qH hi2] at hasg;simp only[tZ,↓un_u,simprocAttr,hasg,hpar,tD,AY,Ak,Bj,Aw];refine⟨fun h7=>?_,fun h7=>?_⟩
  ·have hc:cdE l.codes i=6:=by rw[hcE,Aj oM]
   rw[hbad (by rw[hc];decide),hc];exact .oA [] []
  have hc0:cdEs l.codes (i+1)=0:=by rw[hs,hcE,Aq oM]
  refine⟨fun h8=>?_,fun h8=>?_⟩
  ·obtain⟨q,hq⟩:=AJ (show 0≤parC l.codes i by omega);have hq3:q<(aboL l.codes i).length:=by omega
   have hset:=jC4 (p:=q) hi2 (by rw[hpar,hq]);simp only[hq,Ax,qd hq3,show ∀ a b:Bool,repl (vB a) 0 (vB b)=vB b from fun _ _=>rfl,hwi];refine⟨⟨oM,oM,oM⟩,⟨oM,oM,rfl⟩,i+1,⟨oM,hc0⟩,oM,?_⟩;rw[← List.map_set,hset];exact .oA [(4096,some 4096),(32768,some 32768),(32784,some 32784)] []
  ·have hsk:=js3 hi2 oM;simp only[hwi];refine⟨i+1,⟨oM,hc0⟩,oM,?_⟩;rw[hsk];exact .oA [(4096,some 4096),(32768,some 32768),(32784,some 32784)] []
 ·have hil:i=l.codes.length:=by omega
  subst hil;have hP:=jV4 i2 oM;have hdl:=YT l.codes;refine C1.im (kL l hP) rF rF ?_;refine sW ?_;have hbl:=Wa l.codes l.codes.length;refine qk mixm (α:=Nat×Int) [7,84] (fun x=>x.1≤l.codes.length∧lvs l.codes x.1=some x.2) (fun x=>[(7,vI x.2),(84,vI x.1)]) (fun x=>[(32784,.arr 1 ((aboL l.codes l.codes.length).map vB) false)]) (fun x=>l.codes.length-x.1) (0,-1) ⟨sMp,rfl⟩ ?_ fun x hx=>?_
  ·rw[Ax];exact .oA [(32784,some 32784)] []
  obtain⟨j,v⟩:=x;obtain⟨j1,j2⟩:=hx;dsimp only at j1 j2;refine sD ?_;refine⟨fun h5=>?_,fun h5=>?_⟩
  ·have hj2:j<l.codes.length:=by omega
   have hwj:=qh (i:=j) oM;have hs:=qH8 l.codes j;rw[j2,lvS] at hs;have hj3:j<(depL l.codes).length:=by omega
   have hj4:j<(aboL l.codes l.codes.length).length:=by omega
   have hd1:(depL l.codes)[j]=dep l.codes j:=by simp [depL]
   have ha1:=jC5 hj4;simp only[tZ,↓un_u,simprocAttr,Ax,qd hj3,qd hj4,hd1,ha1,hwj,Bx,Bz,tD,Bj,Aw];refine⟨oM,oM,oM,fun h6=>?_,fun h6=>?_⟩
   ·rw[Aq (by rw[h6];simp)] at hs;refine⟨(j+1,v),⟨by dsimp only;omega,hs⟩,by dsimp only;omega,?_⟩;exact .oA [(32784,some 32784)] []
   ·rw[Aj h6] at hs;refine⟨fun h7=>?_,fun h7=>?_⟩
    ·rw[Aj oM] at hs;rw[hE2 i2 (zU6 hs _ oM)];exact .oA [] []
    ·rw[Aq oM] at hs;refine⟨(j+1,(dep l.codes j:Int)),⟨by dsimp only;omega,hs⟩,by dsimp only;omega,?_⟩;exact .oA [(32784,some 32784)] []
  ·have hjl:j=l.codes.length:=by omega
   subst hjl;rw[hE3 v i2 j2];exact .oA [] []
end Go.Proofs
namespace Go.Proofs
open Go Go.TL
set_option maxRecDepth 4000
set_option maxHeartbeats 8000000
theorem Zy (p:CodL→Bool) (f:FuncId) (caps:List T) (hcap:imL caps=true) (l:List CodL) (hf:∀ y∈l,Spc Tryz.prog f (cdlT y::caps) [] (vB (p y)) []) (hl:l.length<4611686018427387904) :
 Spc Tryz.prog 228 [.sl 2 (l.map cdlT),.clo f caps] [] (vI (idxI p l)) []:=by
 refine sIr QI fun e _ hst=>?_;unfold zJ;refine sW ?_;refine qk mixm (α:=Nat) [8] (fun i=>i≤l.length∧((l.take i).any p=false)) (fun i=>[(8,vI i)]) (fun i=>[]) (fun i=>l.length-i) 0 ⟨oM,?_⟩ ?_ fun i hi=>?_
 ·simp
 ·exact .oA [] []
 simp only[tZ,↓un_u,simprocAttr,AZ,Ay];refine⟨fun h=>?_,fun h=>?_⟩
 ·have hi2:i<l.length:=by omega
  have hwi:=qh (i:=i) oM;simp only[tZ,↓un_u,simprocAttr,Ax,qd hi2,hwi,qe6];refine⟨oM,?_⟩;refine C1.im (hf l[i] (AX hi2)) (JW rfl hcap) rfl ?_;refine sW ?_;refine⟨fun h3=>?_,fun h3=>⟨i+1,⟨oM,jr hi2 hi.2 h3⟩,oM,?_⟩⟩
  ·rw[idxI,Aj (zf0 hi2 h3),wm hi2 hi.2 h3];exact .imR rfl rfl
  ·exact .oA [] []
 ·have h2:i=l.length:=by omega
  have h3:=hi.2;rw[h2,Bw] at h3;rw[idxI,Aq (by rw[h3];simp)];exact .imR rfl rfl
theorem yS (p:CodL→Bool) (f:FuncId) (caps:List T) (hcap:imL caps=true) (l:List CodL) (hf:∀ y∈l,Spc Tryz.prog f (cdlT y::caps) [] (vB (p y)) []) (hl:l.length<4611686018427387904) :
 Spc Tryz.prog 168 [.sl 2 (l.map cdlT),.clo f caps] [] (vB (l.any p)) []:=by
 refine sIr yz fun e _ hst=>?_;unfold zr;refine sW ?_;refine C1.im (Zy p f caps hcap l hf hl) (yL rfl hcap) rfl ?_;refine sW ?_;rw[show decide (idxI p l≥0)=l.any p from qL6 p l];exact .imR rfl rfl
theorem JQ (p:Col→Bool) (f:FuncId) (caps:List T) (hcap:imL caps=true) (l:List Col) (hf:∀ y∈l,Spc Tryz.prog f (colT y::caps) [] (vB (p y)) []) (hl:l.length<4611686018427387904) :
 Spc Tryz.prog 261 [.sl 7 (l.map colT),.clo f caps] [] (vI (idxI p l)) []:=by
 refine sIr ZL fun e _ hst=>?_;unfold zV;refine sW ?_;refine qk mixm (α:=Nat) [8] (fun i=>i≤l.length∧((l.take i).any p=false)) (fun i=>[(8,vI i)]) (fun i=>[]) (fun i=>l.length-i) 0 ⟨oM,?_⟩ ?_ fun i hi=>?_
 ·simp
 ·exact .oA [] []
 simp only[tZ,↓un_u,simprocAttr,AZ,Ay];refine⟨fun h=>?_,fun h=>?_⟩
 ·have hi2:i<l.length:=by omega
  have hwi:=qh (i:=i) oM;simp only[tZ,↓un_u,simprocAttr,Ax,qd hi2,hwi,qe6];refine⟨oM,?_⟩;refine C1.im (hf l[i] (AX hi2)) (JW rfl hcap) rfl ?_;refine sW ?_;refine⟨fun h3=>?_,fun h3=>⟨i+1,⟨oM,jr hi2 hi.2 h3⟩,oM,?_⟩⟩
  ·rw[idxI,Aj (zf0 hi2 h3),wm hi2 hi.2 h3];exact .imR rfl rfl
  ·exact .oA [] []
 ·have h2:i=l.length:=by omega
  have h3:=hi.2;rw[h2,Bw] at h3;rw[idxI,Aq (by rw[h3];simp)];exact .imR rfl rfl
theorem QM (p:Col→Bool) (f:FuncId) (caps:List T) (hcap:imL caps=true) (l:List Col) (hf:∀ y∈l,Spc Tryz.prog f (colT y::caps) [] (vB (p y)) []) (hl:l.length<4611686018427387904) :
 Spc Tryz.prog 229 [.sl 7 (l.map colT),.clo f caps] [] (vB (l.any p)) []:=by
 refine sIr Qs fun e _ hst=>?_;unfold zB;refine sW ?_;refine C1.im (JQ p f caps hcap l hf hl) (yL rfl hcap) rfl ?_;refine sW ?_;rw[show decide (idxI p l≥0)=l.any p from qL6 p l];exact .imR rfl rfl
theorem qG3 (x y:CodL):Spc Tryz.prog 169 [cdlT x,.ip (cdlT y).cells] [] (vB (eqB x.name y.name)) []:=by
 refine sIr qv6 fun e _ hst=>?_;unfold yA;refine sW ?_;rw[show (x.name.toList==y.name.toList)=eqB x.name y.name from rfl];exact .oA [] []
theorem WB (x y:Col):Spc Tryz.prog 230 [colT x,.ip (colT y).cells] [] (vB (eqB x.name y.name)) []:=by
 refine sIr KV fun e _ hst=>?_;unfold jv;refine sW ?_;rw[show (x.name.toList==y.name.toList)=eqB x.name y.name from rfl];exact .oA [] []
def unuB (c:Col):Bool:=!(((c.kind != 2)&&(c.list != 0))||((c.kind != 3)&&((c.low != 0)||(c.high != 0)||(c.widths.length != 0)||c.opt)))
theorem Zz (c:Col):Spc Tryz.prog 232 [colT c] [] (vB (unuB c)) []:=by
 refine sIr qF3 fun e _ hst=>?_;unfold Qt;refine sW ?_;refine⟨fun h=>?_,fun h=>?_⟩
 ·have:unuB c=false:=by unfold unuB;rw[h];rfl
  rw[this];exact .oA [] []
 ·have e:((c.widths.length:Int)==0)=(c.widths.length==0):=by rw[Bool.eq_iff_iff,AY,AY];omega
  have:unuB c=(c.kind==3||c.low==0&&c.high==0&&((c.widths.length:Int)==0)&&!c.opt):=by
   unfold unuB;rw[h,e];simp only[Bool.false_or,bne,Bool.not_and,Bool.not_or,Bool.not_not]
  rw[this];exact .oA [] []
def zD7 (ws:List Int) (i:Nat):Int:=if i=0 then 1 else ws.getD (i-1) 0
theorem Yy (c:Col):Spc Tryz.prog 231 [colT c] [] (vI (measE c)) []:=by
 refine sIr Wv fun e _ hst=>?_;unfold jG;refine sW ?_;simp only[tZ,↓un_u,simprocAttr,tD,Bx,Bz,AY,Ak];have hin:∀ n:Int,inB n (-1000000) 1000000=false↔(n < -1000000∨n>1000000):=fun n=>by
  unfold inB;rw[FJ,Ay,Ay];omega
 refine⟨fun h=>?_,fun h=>?_⟩
 ·have k:inB c.low (-1000000) 1000000=false∨inB c.high (-1000000) 1000000=false∨c.low>c.high:=by
   rw[hin,hin];omega
  rw[measE,Aj k];exact .oA [] []
 have hA:¬ (inB c.low (-1000000) 1000000=false∨inB c.high (-1000000) 1000000=false∨c.low>c.high):=by
  rw[hin,hin];omega
 refine⟨fun h2=>?_,fun h2=>?_⟩
 ·rw[measE,Aq hA,Aj oM];exact .oA [] []
 have hm:measE c=if jA4 c.widths=false then 2 else 0:=by rw[measE,Aq hA,Aq oM]
 refine qk mixm (α:=Nat) [3,36] (fun i=>i≤c.widths.length∧(∀ j,j<i→wdOk c.widths j=true)) (fun i=>[(3,vI (zD7 c.widths i)),(36,vI i)]) (fun i=>[]) (fun i=>c.widths.length-i) 0 ⟨oM,?_⟩ ?_ fun i hi=>?_
 ·intro j hj;omega
 ·exact .oA [] []
 have hbad:i<c.widths.length→wdOk c.widths i=false→measE c=2:=fun h1 h2=>by
  rw[hm,Aj];exact List.all_eq_false.2 ⟨i,Dk.2 h1,by rw[h2];simp⟩
 have hok:wdOk c.widths i=true→∀ j,j<i+1→wdOk c.widths j=true:=fun h1 j hj=>by
  by_cases e:j=i
  ·rw[e];exact h1
  ·exact hi.2 j oM
 simp only[tZ,↓un_u,simprocAttr,AZ,Ay];refine⟨fun h=>?_,fun h=>?_⟩
 ·have hi2:i<c.widths.length:=by omega
  have hwi:=qh (i:=i) oM;have hnx:zD7 c.widths (i+1)=c.widths[i]:=by rw[zD7,Aq oM,Nat.add_sub_cancel,qg hi2]
  rcases DQ i with h0 | h0
  ·subst h0;have hw0:wdOk c.widths 0=(c.widths[0]==1):=by rw[wdOk,Aj rfl,qg hi2]
   have hz:((0:Nat):Int)=0:=rfl;rw[hz] at hwi;simp only[tZ,↓un_u,simprocAttr,Ax,hz,beq_self_eq_true,gt_iff_lt,Int.lt_irrefl,decide_false,Bool.false_and,Bool.or_false,Fq,qd hi2,Bj,Aw];have hwz:IntKind.i64.wrap 1=((1:Nat):Int):=by decide
   refine⟨oM,fun h3=>?_,fun h3=>?_⟩
   ·rw[hbad hi2 (by rw[hw0];simpa using h3)];exact .oA [] []
   ·rw[hwz];refine⟨1,⟨oM,hok (by rw[hw0];simpa using h3)⟩,oM,?_⟩;rw[hnx];exact .oA [] []
  ·have e1:((i:Int)==0)=false:=Ak.2 oM;have e2:decide ((i:Int)>0)=true:=Cx oM;have hw1:wdOk c.widths i=(decide (zD7 c.widths i<c.widths[i])&&decide (c.widths[i]≤1000000)&&(c.widths[i].tmod (zD7 c.widths i)==0)):=by
    rw[wdOk,Aq oM,qg hi2,zD7,Aq oM]
   have hp1:1≤zD7 c.widths i:=by
    have:=zB0 (ws:=c.widths) hi.2 (i-1) oM;rw[zD7,Aq oM];exact this
   simp only[tZ,↓un_u,simprocAttr,Ax,qd hi2,e1,e2,hwi,tD,Bj,Aw];refine⟨oM,fun _=>by omega,fun h3=>?_,fun h3=>?_⟩
   ·rw[hbad hi2 (by rw[hw1];grind)];exact .oA [] []
   ·refine⟨i+1,⟨oM,hok (by rw[hw1];grind)⟩,oM,?_⟩;rw[hnx];exact .oA [] []
 ·have hi2:i=c.widths.length:=by omega
  subst hi2;rw[hm,Aq]
  ·exact .oA [] []
  ·rw[Ez];exact Bk.2 fun j hj=>hi.2 j (Dk.1 hj)
theorem qc3 (s:Sch) (i:Nat) (hi:i<s.cols.length) (hn:s.cols.length<4611686018427387904) (hl:s.lists.length<4611686018427387904):Spc Tryz.prog 170 [schT s,vI i] [] (vI (colE s i)) []:=by
 have hat:qj s i=s.cols[i]:=by rw[qj,qg hi]
 have hE:colE s i=if zT s.cols[i].name=false then 3
  else if ((s.cols.take i).any fun x=>eqB x.name s.cols[i].name)=true then 10
  else if inB s.cols[i].kind 1 3=false∨(0<i∧s.cols[i].kind=1) then 4
  else if s.cols[i].kind=2∧inB s.cols[i].list 0 (s.lists.length-1)=false then 5
  else if s.cols[i].kind=3∧measE s.cols[i]≠0 then measE s.cols[i]
  else if (s.cols[i].kind≠2∧s.cols[i].list≠0)∨(s.cols[i].kind≠3∧(s.cols[i].low≠0∨s.cols[i].high≠0∨0<s.cols[i].widths.length∨s.cols[i].opt=true)) then 11 else 0:=by rw[colE,hat]
 rw[hE];refine sIr Yf fun e _ hst=>?_;unfold jS;simp only[tZ,↓un_u,simprocAttr,Ax,qd hi];generalize s.cols[i]=c;refine⟨oM,?_⟩;refine C1.im (ka c.name) rF rF ?_;simp only[tZ,↓un_u,simprocAttr,Bx,Bz];refine⟨fun h=>?_,fun h=>?_⟩
 ·rw[Aj h];exact .oA [] []
 rw[Aq (by rw[h];simp)];have hCF:=QM (fun x=>eqB x.name c.name) 230 [.ip (colT c).cells] rfl (s.cols.take i) (fun x _=>WB x c) (by rw[Cz];omega);refine⟨oM,?_⟩;rw[WO,qL5];refine C1.lend [8212] hCF ?_ rF rF ?_
 ·all_goals (try simp only[tL,simprocAttr,By,List.map_cons,List.map_nil,BW,Cy])
  all_goals (try (repeat' (first | exact qZ | (apply zk;intro _;exact⟨rfl,rfl⟩) | (apply qA;intro _;exact⟨rfl,rfl⟩) | with_reducible apply qW | with_reducible refine qQ ⟨rfl,rfl⟩ ?_ | exact qY | with_reducible apply qR | with_reducible refine qX ⟨rfl,rfl,?_⟩ ?_ | with_reducible apply Az | exact qS rfl | exact qS (by assumption) | (refine⟨⟨?_,rfl,?_,rfl,?_⟩,trivial⟩ <;> first | (simp;done) | (apply qA;intro _;exact⟨rfl,rfl⟩)) | trivial | rfl | (rw[qh oM]) | omega)))
  simp only[ltP];exact⟨rfl,by decide,rfl,qQ ⟨rfl,rfl⟩ qY⟩
 simp only[tZ,↓un_u,simprocAttr,tD,Bx,Bz,AY,Ak];refine⟨fun h2=>?_,fun h2=>?_⟩
 ·rw[Aj h2];exact .oA [] []
 rw[Aq (by rw[h2];simp)];have hI:inB c.kind 1 3=false↔¬ (1≤c.kind∧c.kind≤3):=by unfold inB;rw[FJ,Ay,Ay];omega
 have hL:inB c.list 0 (s.lists.length-1)=false↔(c.list<0∨(s.lists.length:Int)≤c.list):=by unfold inB;rw[FJ,Ay,Ay];omega
 have hU:unuB c=false↔((c.kind≠2∧c.list≠0)∨(c.kind≠3∧(c.low≠0∨c.high≠0∨0<c.widths.length∨c.opt=true))):=by
  have hw0:c.widths.length≠0↔0<c.widths.length:=by omega
  unfold unuB;rw[Bz,DZ,Bq,Bq,Bj,Bj,Bj,DZ,DZ,DZ,Bj,Bj,Bj,hw0,or_assoc,or_assoc]
 have hfin:∀ (v:Int),(unuB c=false→v=11)→(unuB c=true→v=0)→v=if (c.kind≠2∧c.list≠0)∨(c.kind≠3∧(c.low≠0∨c.high≠0∨0<c.widths.length∨c.opt=true)) then 11 else 0:=fun v h11 h00=>by
  by_cases k:unuB c=false
  ·rw[Aj (hU.1 k),h11 k]
  ·rw[Aq (fun e=>k (hU.2 e)),h00 (by simpa using k)]
 refine⟨fun k1=>⟨fun h3=>?_,fun h3=>?_⟩,fun k1=>⟨fun k2=>⟨fun h3=>?_,fun h3=>?_⟩,fun k2=>⟨fun k3=>?_,fun k3=>?_⟩⟩⟩
 ·rw[Aj (.inr ⟨oM,k1⟩)];exact .oA [] []
 ·rw[Aq (by rw[hI];omega),Aq oM,Aq oM];refine C1.im (Zz c) rF rF ?_;simp only[tZ,↓un_u,simprocAttr,Bx,Bz];refine⟨fun h4=>?_,fun h4=>?_⟩
  ·rw[← hfin 11 (fun _=>rfl) (fun k=>by rw[h4] at k;cases k)];exact .oA [] []
  ·rw[← hfin 0 (fun k=>by rw[h4] at k;cases k) (fun _=>rfl)];exact .oA [] []
 ·rw[Aq (by rw[hI];omega),Aj ⟨k2,hL.2 h3⟩];exact .oA [] []
 ·rw[Aq (by rw[hI];omega),Aq (by rw[hL];omega),Aq oM];refine C1.im (Zz c) rF rF ?_;simp only[tZ,↓un_u,simprocAttr,Bx,Bz];refine⟨fun h4=>?_,fun h4=>?_⟩
  ·rw[← hfin 11 (fun _=>rfl) (fun k=>by rw[h4] at k;cases k)];exact .oA [] []
  ·rw[← hfin 0 (fun k=>by rw[h4] at k;cases k) (fun _=>rfl)];exact .oA [] []
 ·rw[Aq (by rw[hI];omega),Aq oM];refine C1.im (Yy c) rF rF ?_;simp only[tZ,↓un_u,simprocAttr,Bj,Aw];refine⟨fun h3=>?_,fun h3=>?_⟩
  ·rw[Aj ⟨k3,h3⟩];exact .oA [] []
  rw[Aq oM];refine C1.im (Zz c) rF rF ?_;simp only[tZ,↓un_u,simprocAttr,Bx,Bz];refine⟨fun h4=>?_,fun h4=>?_⟩
  ·rw[← hfin 11 (fun _=>rfl) (fun k=>by rw[h4] at k;cases k)];exact .oA [] []
  ·rw[← hfin 0 (fun k=>by rw[h4] at k;cases k) (fun _=>rfl)];exact .oA [] []
 ·rw[Aj (.inl (hI.2 oM))];exact .oA [] []
theorem zK (s:Sch) (hn:s.cols.length<4611686018427387904) (hl:s.lists.length<4611686018427387904):Spc Tryz.prog 99 [schT s] [] (vI (schE s)) []:=by
 refine sIr qN2 fun e _ hst=>?_;unfold Zc;refine sD ?_;refine⟨fun h=>?_,fun h=>?_⟩
 ·rw[schE,Aj oM];exact .oA [] []
 have hE1:wt s s.lists.length≠0→schE s=wt s s.lists.length:=fun k=>by rw[schE,Aq oM,Aj k]
 refine qk mixm (α:=Nat) [21] (fun i=>i≤s.lists.length∧wt s i=0) (fun i=>[(21,vI i)]) (fun i=>[(4096,.arr 2 [schT s] false)]) (fun i=>s.lists.length-i) 0 ⟨oM,rfl⟩ ?_ fun i hi=>?_
 ·exact .oA [(4096,some 4096)] []
 obtain⟨i1,i2⟩:=hi;refine sD ?_;refine⟨fun h2=>?_,fun h2=>?_⟩
 ·have hi2:i<s.lists.length:=by omega
  have hwi:=qh (i:=i) oM;have hat:s.lists.getD i default=s.lists[i]:=qg hi2;have hstep:wt s (i+1)=if lstE s.lists[i]≠0 then lstE s.lists[i] else if ((s.lists.take i).any fun x=>eqB x.name s.lists[i].name)=true then 10 else 0:=by
   rw[wt,Aq (by rw[i2];simp),hat]
  have hbad:wt s (i+1)≠0→schE s=wt s (i+1):=fun k=>by
   have:=qP8 k s.lists.length oM;rw[hE1 (by rw[this];exact k),this]
  have hCF:=yS (fun x=>eqB x.name s.lists[i].name) 169 [.ip (cdlT s.lists[i]).cells] rfl (s.lists.take i) (fun x _=>qG3 x s.lists[i]) (by rw[Cz];omega);simp only[tZ,↓un_u,simprocAttr,Ax,qd hi2,hwi];generalize s.lists[i]=c at *
  refine⟨oM,?_⟩;refine C1.im (QL c) rF rF ?_;simp only[tZ,↓un_u,simprocAttr,Bj,Aw];refine⟨fun h3=>?_,fun h3=>?_⟩
  ·rw[Aj h3] at hstep;rw[hbad (by rw[hstep];exact h3),hstep];exact .oA [] []
  rw[Aq (by rw[h3];simp)] at hstep;refine⟨oM,?_⟩;rw[WO,qL5];refine C1.lend [24588] hCF ?_ rF rF ?_
  ·all_goals (try simp only[tL,simprocAttr,By,List.map_cons,List.map_nil,BW,Cy])
   all_goals (try (repeat' (first | exact qZ | (apply zk;intro _;exact⟨rfl,rfl⟩) | (apply qA;intro _;exact⟨rfl,rfl⟩) | with_reducible apply qW | with_reducible refine qQ ⟨rfl,rfl⟩ ?_ | exact qY | with_reducible apply qR | with_reducible refine qX ⟨rfl,rfl,?_⟩ ?_ | with_reducible apply Az | exact qS rfl | exact qS (by assumption) | (refine⟨⟨?_,rfl,?_,rfl,?_⟩,trivial⟩ <;> first | (simp;done) | (apply qA;intro _;exact⟨rfl,rfl⟩)) | trivial | rfl | (rw[qh oM]) | omega)))
   simp only[ltP];exact⟨rfl,by decide,rfl,qQ ⟨rfl,rfl⟩ qY⟩
  simp only[tZ,↓un_u,simprocAttr,hwi];refine⟨fun h4=>?_,fun h4=>?_⟩
  ·rw[Aj h4] at hstep;rw[hbad (by rw[hstep];simp),hstep];exact .oA [] []
  ·rw[Aq (by rw[h4];simp)] at hstep;refine⟨i+1,⟨oM,hstep⟩,oM,?_⟩;exact .oA [(4096,some 4096)] []
 ·have hil:i=s.lists.length:=by omega
  subst hil;have hE2:s.cols.length=0∨(qj s 0).kind≠1→schE s=7:=fun k=>by rw[schE,Aq oM,Aq (by rw[i2];simp),Aj k]
  have hE3:¬ (s.cols.length=0∨(qj s 0).kind≠1)→schE s=Ke s s.cols.length:=fun k=>by rw[schE,Aq oM,Aq (by rw[i2];simp),Aq k]
  have hz:((0:Nat):Int)=0:=rfl;by_cases h0:s.cols.length=0
  ·have hn:s.cols=[]:=Dy.1 h0;rw[hE2 (.inl h0)];simp only[tZ,↓un_u,simprocAttr,hn,Cw,hz,beq_self_eq_true];exact .oA [] []
  ·have h0p:0<s.cols.length:=by omega
   have e0:((s.cols.length:Int)==0)=false:=Ak.2 oM;have hc0:qj s 0=s.cols[0]:=by rw[qj,qg h0p]
   simp only[tZ,↓un_u,simprocAttr,e0,qd h0p,Bj,Aw,Bool.false_or];refine⟨oM,fun h3=>?_,fun h3=>?_⟩
   ·rw[hE2 (.inr (by rw[hc0];exact h3))];exact .oA [] []
   have hE4:=hE3 (by rw[hc0];grind);refine qk mixm (α:=Nat) [53] (fun i=>i≤s.cols.length∧Ke s i=0) (fun i=>[(53,vI i)]) (fun i=>[(4096,.arr 2 [schT s] false)]) (fun i=>s.cols.length-i) 0 ⟨oM,rfl⟩ ?_ fun i hi=>?_
   ·exact .oA [(4096,some 4096)] []
   simp only[tZ,↓un_u,simprocAttr,AZ,Ay];refine⟨fun h=>?_,fun h=>?_⟩
   ·have hi2:i<s.cols.length:=by omega
    have hwi:=qh (i:=i) oM;have hstep:Ke s (i+1)=colE s i:=by rw[Ke,Aq (by rw[hi.2];simp)]
    refine C1.im (qc3 s i hi2 hn hl) rF rF ?_;simp only[tZ,↓un_u,simprocAttr,Bj,Aw,hwi];refine⟨fun h4=>?_,fun h4=>?_⟩
    ·have:=qP9 (s:=s) (i:=i+1) (by rw[hstep];exact h4) s.cols.length oM;rw[hE4,this,hstep];exact .oA [] []
    ·refine⟨i+1,⟨oM,by rw[hstep];exact h4⟩,oM,?_⟩;exact .oA [(4096,some 4096)] []
   ·have hil:i=s.cols.length:=by omega
    rw[hE4,← hil,hi.2];exact .oA [] []
end Go.Proofs
namespace Go.Proofs
open Go Go.TL
set_option maxRecDepth 4000
set_option maxHeartbeats 8000000
theorem qI0 {cs:List Cod}:∀ {n:Nat} {v:Int},lvs cs n=some v→∀ j,j<n→qh8 cs j=true→(dep cs j:Int)=v
 | 0,_,_,j,h,_=>by omega
 | n+1,v,h,j,hj,hl=>by
   rw[qH8] at h;cases e:lvs cs n with
   | none=>rw[e] at h;cases h
   | some w=>
     rw[e] at h;have ih:=fun k hk h2=>qI0 e k hk h2;unfold lvS at h;dsimp only at h;split at h
     ·split at h
      ·cases h
      ·rename_i h2;have hv:(dep cs n:Int)=v:=by simpa using h
       by_cases e2:j=n
       ·rw[e2];exact hv
       ·have:=ih j oM hl;omega
     ·rename_i h2;have hv:w=v:=by simpa using h
      by_cases e2:j=n
      ·rw[e2] at hl;exact absurd hl h2
      ·have:=ih j oM hl;omega
theorem zp2 {cs:List Cod} {c:Nat}:qh8 cs c=true↔∀ i,i<cs.length→parC cs i≠c:=by
 unfold qh8;rw[Bx,List.any_eq_false];constructor
 ·intro h i hi e;have:=h cs[i] (AX hi);rw[parC,cdAt,qg hi] at e;simp [e] at this
 ·intro h x hx;obtain⟨i,hi,rfl⟩:=CX hx;have:=h i hi;rw[parC,cdAt,qg hi] at this;simpa using this
theorem jC6 {l:CodL} (h:lstE l=0):∃ v,lvs l.codes l.codes.length=some v:=by
 unfold lstE at h;split at h
 ·cases h
 ·split at h
  ·cases h
  ·split at h
   ·cases h
   ·split at h
    ·rename_i h2;exact absurd h h2
    ·split at h
     ·cases h
     ·rename_i v e;exact⟨v,e⟩
theorem zK2 {l:CodL} (h:lstE l=0) {c:Nat} (hc:c<l.codes.length):(dep l.codes c:Int)≤zf l-1∧(qh8 l.codes c=true→(dep l.codes c:Int)=zf l-1)∧(qh8 l.codes c=false→(dep l.codes c:Int)<zf l-1):=by
 obtain⟨hp,h1,h2⟩:=ze h;obtain⟨v,hv⟩:=jC6 h;have hlast:qh8 l.codes (l.codes.length-1)=true:=zp2.2 fun i hi e=>by
  have:=(hp i hi).2;omega
 have hlv:=qI0 hv (l.codes.length-1) oM hlast;have hL:zf l-1=v:=by rw[zf,Aq (by rw[h];simp)];omega
 have hall:∀ k c,l.codes.length-c=k→c<l.codes.length→(dep l.codes c:Int)≤v∧(qh8 l.codes c=false→(dep l.codes c:Int)<v):=by
  intro k
  induction k using Nat.strongRecOn with
  | _ k ih=>
    intro c hk hc;cases hl:qh8 l.codes c with
    | true=>
      have:=qI0 hv c hc hl;exact⟨oM,fun e=>by cases e⟩
    | false=>
      have hn:¬ ∀ i,i<l.codes.length→parC l.codes i≠c:=fun k=>by rw[zp2.2 k] at hl;cases hl
      simp only[Classical.not_forall] at hn;obtain⟨i,hi,hn⟩:=hn;have hpc:parC l.codes i=c:=AQ hn;have h3:=hp i hi;have h4:=qw5 hp hi oM;rw[hpc,Ax] at h4;have h5:=ih (l.codes.length-i) oM i rfl hi;have:=h5.1;exact⟨oM,fun _=>by omega⟩
 have:=hall _ c rfl hc;rw[hL];exact⟨this.1,fun hl=>qI0 hv c hc hl,this.2⟩
theorem jC7 {l:CodL} (h:lstE l=0) {c:Nat} (hc:c<l.codes.length):qh8 l.codes c=true↔(dep l.codes c:Int)=zf l-1:=by
 obtain⟨_,h2,h3⟩:=zK2 h hc;cases hl:qh8 l.codes c with
 | true=>exact⟨fun _=>h2 hl,fun _=>rfl⟩
 | false=>
   have:=h3 hl;exact⟨(by intro e;cases e),fun e=>by omega⟩
theorem Wb (p:Cod→Bool) (f:FuncId) (caps:List T) (hcap:imL caps=true) (l:List Cod) (hf:∀ y∈l,Spc Tryz.prog f (codT y::caps) [] (vB (p y)) []) (hl:l.length<4611686018427387904) :
 Spc Tryz.prog 255 [.sl 2 (l.map codT),.clo f caps] [] (vI (idxI p l)) []:=by
 refine sIr Kd fun e _ hst=>?_;unfold jo;refine sW ?_;refine qk mixm (α:=Nat) [8] (fun i=>i≤l.length∧((l.take i).any p=false)) (fun i=>[(8,vI i)]) (fun i=>[]) (fun i=>l.length-i) 0 ⟨oM,?_⟩ ?_ fun i hi=>?_
 ·simp
 ·exact .oA [] []
 simp only[tZ,↓un_u,simprocAttr,AZ,Ay];refine⟨fun h=>?_,fun h=>?_⟩
 ·have hi2:i<l.length:=by omega
  have hwi:=qh (i:=i) oM;simp only[tZ,↓un_u,simprocAttr,Ax,qd hi2,hwi,qe6];refine⟨oM,?_⟩;refine C1.im (hf l[i] (AX hi2)) (JW rfl hcap) rfl ?_;refine sW ?_;refine⟨fun h3=>?_,fun h3=>⟨i+1,⟨oM,jr hi2 hi.2 h3⟩,oM,?_⟩⟩
  ·rw[idxI,Aj (zf0 hi2 h3),wm hi2 hi.2 h3];exact .imR rfl rfl
  ·exact .oA [] []
 ·have h2:i=l.length:=by omega
  have h3:=hi.2;rw[h2,Bw] at h3;rw[idxI,Aq (by rw[h3];simp)];exact .imR rfl rfl
theorem ZN (p:Cod→Bool) (f:FuncId) (caps:List T) (hcap:imL caps=true) (l:List Cod) (hf:∀ y∈l,Spc Tryz.prog f (codT y::caps) [] (vB (p y)) []) (hl:l.length<4611686018427387904) :
 Spc Tryz.prog 214 [.sl 2 (l.map codT),.clo f caps] [] (vB (l.any p)) []:=by
 refine sIr Zq fun e _ hst=>?_;unfold zQ;refine sW ?_;refine C1.im (Wb p f caps hcap l hf hl) (yL rfl hcap) rfl ?_;refine sW ?_;rw[show decide (idxI p l≥0)=l.any p from qL6 p l];exact .imR rfl rfl
theorem qR9 (x:Cod) (v:Int):Spc Tryz.prog 215 [codT x,.ip [vI v]] [] (vB (x.par==v)) []:=by
 refine sIr qF1 fun e _ hst=>?_;unfold Qq;refine sW ?_;exact .oA [] []
theorem js4 {l:CodL} (h:lstE l=0) (v:Int):(decide (0≤v)&&decide (v<l.codes.length)&&!(l.codes.any fun x=>x.par==v))=(inB v 0 (l.codes.length-1)&&(lvlC l v==zf l-1)):=by
 unfold inB;by_cases h0:0≤v∧v<l.codes.length
 ·obtain⟨c,rfl⟩:=AJ h0.1;have hc:c<l.codes.length:=by omega
  have h1:lvlC l c=dep l.codes c:=by rw[lvlC,Aq (by rw[h];simp;omega),Ax]
  rw[Cx h0.1,Cx h0.2,Cx (show (c:Int)≤(l.codes.length:Int)-1 by omega),h1];simp only[Fq];rw[Bool.eq_iff_iff,AY,← jC7 h hc]
  rfl
 ·by_cases h1:0≤v
  ·rw[Cx h1,Cq (show ¬ v<l.codes.length by omega),Cq (show ¬ v≤(l.codes.length:Int)-1 by omega)]
   rfl
  ·rw[Cq h1]
   rfl
theorem qr6 (s:Sch) (h:SchOk s) (i:Nat) (hi:i<s.cols.length) (v:Int):Spc Tryz.prog 161 [schT s,colT s.cols[i],vI v] [] (vB (jb s i v)) []:=by
 have hat:qj s i=s.cols[i]:=by rw[qj,qg hi]
 have hk:=za (h.cs i hi);have hcd:=fun e=>h.cdl hi e;have hE:jb s i v=if s.cols[i].kind=1 then inB v 1 1048575
  else if s.cols[i].kind=2 then inB v 0 ((qK s i).codes.length-1)&&(lvlC (qK s i) v==zf (qK s i)-1)
  else (s.cols[i].opt&&(v==kH))||inB v s.cols[i].low s.cols[i].high:=by rw[jb,hat]
 have hcl:qK s i=s.lists.getD s.cols[i].list.toNat default:=by rw[qK,hat]
 rw[hat] at hk hcd;rw[hE];rw[hcl] at hcd ⊢
 generalize s.cols[i]=c at hk hcd ⊢
 refine sIr qY8 fun e _ hst=>?_;unfold Jx;refine sW ?_;simp only[tZ,↓un_u,simprocAttr,AY,Ak];refine⟨fun h1=>?_,fun h1=>⟨fun h2=>?_,fun h2=>?_⟩⟩
 ·rw[Aj h1,show inB v 1 1048575=(decide (1≤v)&&decide (v≤1048575)) from rfl];exact .oA [] []
 ·obtain⟨d1,d2⟩:=hcd h2;obtain⟨d3,d4⟩:=hk.2.2.2.1 h2;have hgl:s.lists.getD c.list.toNat default=s.lists[c.list.toNat]:=qg d1;rw[Aq h1,Aj h2];rw[hgl] at d2 ⊢
  obtain⟨_,d5,d6⟩:=ze d2;simp only[tZ,↓un_u,simprocAttr,qd d1];generalize s.lists[c.list.toNat]=l at d2 d5 d6 ⊢
  have hCF:=ZN (fun x=>x.par==v) 215 [.ip [vI v]] rfl l.codes (fun x _=>qR9 x v) oM;refine⟨oM,?_⟩;refine C2.lend [4104] (fun _=>hCF) (fun _=>?_) rF rF ?_
  ·all_goals (try simp only[tL,simprocAttr,By,List.map_cons,List.map_nil,BW,Cy])
   all_goals (try (repeat' (first | exact qZ | (apply zk;intro _;exact⟨rfl,rfl⟩) | (apply qA;intro _;exact⟨rfl,rfl⟩) | with_reducible apply qW | with_reducible refine qQ ⟨rfl,rfl⟩ ?_ | exact qY | with_reducible apply qR | with_reducible refine qX ⟨rfl,rfl,?_⟩ ?_ | with_reducible apply Az | exact qS rfl | exact qS (by assumption) | (refine⟨⟨?_,rfl,?_,rfl,?_⟩,trivial⟩ <;> first | (simp;done) | (apply qA;intro _;exact⟨rfl,rfl⟩)) | trivial | rfl | (rw[qh oM]) | omega)))
   simp only[ltP];exact⟨rfl,by decide,rfl,qQ ⟨rfl,rfl⟩ qY⟩
  refine sW ?_;rw[← js4 d2 v];exact .oA [] []
 ·rw[Aq h1,Aq h2,Bool.or_comm,show inB v c.low c.high=(decide (c.low≤v)&&decide (v≤c.high)) from rfl];rw[show (c.opt&&v==kH)=(c.opt&&v == -1099511627776) from rfl];exact .oA [] []
theorem zp3 (s:Sch) (h0:schE s=0) (row:List Int) (hr:row.length<4611686018427387904):Spc Tryz.prog 153 [schT s,vIs row] [] (vB (rowE s row==0)) []:=by
 have hok:=qV h0;have hnc:=hok.nc;refine sIr qY4 fun e _ hst=>?_;unfold Jv;simp only[tZ,↓un_u,simprocAttr,tD,Bj,Aw];refine⟨fun h2=>?_,fun h2=>?_⟩
 ·have:rowE s row=9:=by rw[rowE,Aq (by rw[h0];simp),Aj oM]
  rw[this];exact .oA [] []
 refine qk mixm (α:=Nat) [16] (fun i=>i≤s.cols.length∧(∀ j,j<i→jb s j (row.getD j 0)=true)) (fun i=>[(16,vI i)]) (fun i=>[(4096,.arr 2 [schT s] false)]) (fun i=>s.cols.length-i) 0 ⟨oM,?_⟩ ?_ fun i hi=>?_
 ·intro j hj;omega
 ·exact .oA [(4096,some 4096)] []
 simp only[tZ,↓un_u,simprocAttr,AZ,Ay];refine⟨fun h=>?_,fun h=>?_⟩
 ·have hi2:i<s.cols.length:=by omega
  have hi3:i<row.length:=by omega
  have hwi:=qh (i:=i) oM;have hF:=qr6 s hok i hi2 row[i];simp only[tZ,↓un_u,simprocAttr,Ax,qd hi2,qd hi3,hwi];refine⟨oM,oM,?_⟩;refine C1.im hF rF rF ?_;simp only[tZ,↓un_u,simprocAttr,Bx,Bz];refine⟨kR,fun h3=>?_,fun h3=>?_⟩
  ·rw[zU9 h0 oM hi3 h3];exact .oA [] []
  ·refine⟨i+1,⟨oM,fun j hj=>?_⟩,oM,?_⟩
   ·by_cases e:j=i
    ·rw[e,qg hi3];exact h3
    ·exact hi.2 j oM
   ·exact .oA [(4096,some 4096)] []
 ·have hil:i=s.cols.length:=by omega
  rw[zJ6 h0 oM (fun j hj=>hi.2 j oM)];exact .oA [] []
end Go.Proofs
