/- A part of the proof: E23. -/
import Derived.WalkKit
import Derived.Still
import Derived.MapKept
import GoSem.Builtin.Cap
import Derived.Laws.Externs
import GoSem.Extern.SlicesOverlaps
import Derived.Carry
import Derived.ProofKit
import Derived.OpenShut
import Derived.HandedShaped
import Derived.Lay
import Derived.LaidLaws
import Derived.MakeChecks
import Derived.SevenTiedAt
import Derived.Test.YtnfagfikoblhfaaGreatDoorChecked
import Derived.Test.YtnfagfikoblhfaaGreatDoorK24
set_option linter.unusedSimpArgs false
set_option linter.unusedVariables false
namespace Go.Proofs
open Go Go.TL
set_option maxRecDepth 4000
set_option maxHeartbeats 8000000
open So
theorem jE2 {x:Src} (h:x.rows.length≤12) (d:Dcl):(ownS x d).length≤12:=by
 unfold ownS ownR;split
 ·simp
 ·rw[BY];exact FZ (Fx _ _) h
theorem jE3 {x:Src} (d:Dcl) {l:List Pk} (k:Int) (hl:l.length≤1000):(jY x d l k).picks.length≤1000∧(jY x d l k).rows.length≤200∧∀ r∈(jY x d l k).rows,r.length≤1001:=by
 by_cases h:srcB x=true
 ·exact jQ6 (KY.1 h) d k hl
 ·have:jY x d l k=ext0:=by
   unfold jY buildE;rw[Aj (by rw[Aj (by simpa using h)];decide)]
  rw[this];exact⟨by decide,by decide,fun r hr=>by cases hr⟩
theorem YG (bs:List UInt8) (raw:Dcl) (l:List Pk) (sec:Int):Spc Tryz.prog 5 [vL bs,dclT raw,vPs l,vI sec] [] (vB true) []:=by
 have hl4:(bs.take 400).length≤400:=by rw[Cz];omega
 obtain⟨x,d,a1,a2,hX,h12,hsm,hL,hdE,ha1,ha2,sS,sDd⟩:=jX7 10 oM (bs.take 400) 0 hl4 oM;obtain⟨k,a3,hk1,hk2,ha3,sK⟩:=jC0 (bs.take 400) a2 hl4 ha2;obtain⟨⟨pk,a4⟩,⟨⟨_,hpk⟩,ha4⟩,sPk⟩:=qs6 x.sch hX.sch (bs.take 400) a3 hl4 ha3;dsimp only at hpk ha4 sPk;have hcl:=jD9 hX.sch;have sP:=zC4 x.sch hsm.1 hL d;have hpl:=zC3 x.sch d;have sA:=jb5 x.sch hsm.1 oM oM;have hfl:=zE6 x.sch (x.sch.cols.length-1);have sO1:=fun D=>Wj x D hsm;have sO2:=fun D=>qd6 x D hsm hL;have hol:=fun D=>jE2 h12 D;have sI:=fun D=>ZS (ownS x D) (ownS x D) (by have:=hol D;omega);obtain⟨odd,hodd⟩:∃ odd:Src,odd=⟨x.sch,x.rows,x.gone,-1⟩:=⟨_,rfl⟩;have hsmo:zb2 odd:=by rw[hodd];exact hsm
 have h12o:odd.rows.length≤12:=by rw[hodd];exact h12
 have hLo:0<odd.sch.lists.length:=by rw[hodd];exact hL
 refine sIr Wl fun e _ hst=>?_;unfold jB;refine sW ?_;refine sD ?_;refine⟨fun h3=>?_,fun h3=>?_⟩
 ·refine C1.im qs8 rF rF ?_;refine sW ?_;exact .oA [] []
 refine C1.newdraw 16388 (ja1 bs) rfl rfl ?_;generalize bs.take 400=m at hl4 sS sDd sK sPk ha1 ha2 ha3 ha4 ⊢
 refine sW ?_;refine C1.draw 16388 m 0 _ sS rfl rfl rfl ?_;refine sW ?_;refine C1.draw 16388 m a1 _ sDd rfl rfl rfl ?_;refine sW ?_;refine C1.im sP rF rF ?_;refine sW ?_;refine C1.im sA rF rF ?_;refine sW ?_;generalize qx0 x.sch d=P at hpl ⊢
 generalize zb6 x.sch (x.sch.cols.length-1)=F at hfl ⊢
 refine C1.draw 16388 m a2 _ sK rfl rfl rfl ?_;refine sW ?_
 repeat (first | refine⟨oM,?_⟩ | refine⟨kR,?_⟩)
 refine C1.im (sO1 d) rF rF ?_;refine sW ?_
 repeat (first | refine⟨oM,?_⟩ | refine⟨kR,?_⟩)
 refine C1.im (sO2 d) rF rF ?_;refine sW ?_
 repeat (first | refine⟨oM,?_⟩ | refine⟨kR,?_⟩)
 refine C1.im (sI d) rF rF ?_;rw[YY];refine sW ?_
 repeat (first | refine⟨oM,?_⟩ | refine⟨kR,?_⟩)
 refine C2.im (fun _=>sO1 raw) (fun _=>rfl) rF ?_;refine sW ?_;refine C2.im (fun _=>sO2 raw) (fun _=>rfl) rF ?_;refine sW ?_;refine C2.im (fun _=>sI raw) (fun _=>rfl) rF ?_;rw[YY];refine sW ?_
 repeat (first | refine⟨oM,?_⟩ | refine⟨kR,?_⟩)
 refine C1.draw 16388 m a3 _ sPk rfl rfl rfl ?_;refine sW ?_
 repeat (first | refine⟨oM,?_⟩ | refine⟨kR,?_⟩)
 obtain⟨Z,hZ⟩:∃ Z:List (List Pk),Z=[P,F,pk,l]:=⟨_,rfl⟩;have hZ4:Z.length=4:=by rw[hZ];rfl
 have hZs:∀ z∈Z,z.length≤1000:=fun z hz=>by
  rw[hZ] at hz;simp only[Ck,List.not_mem_nil,or_false] at hz;rcases hz with e | e | e | e <;> (rw[e];omega)
 refine qk mixm (α:=Nat) [92] (fun i=>i≤4) (fun i=>[(92,vI i)]) (fun i=>[(20488,.arr 5 [srcT x] false),(24592,.arr 12 [dclT d] false),(49156,.arr 5 [srcT odd] false),(57372,.arr 1 (Z.map vPs) false)]) (fun i=>4-i) 0 oM ?_ fun i hi=>?_
 ·rw[hZ,hodd];exact .oA [(20488,some 20488),(24592,some 24592),(49156,some 49156),(57372,some 57372)] []
 refine sD ?_;refine⟨fun h4=>?_,fun h4=>?_⟩
 ·have hi2:i<Z.length:=by omega
  have hwi:=qh (i:=i) oM;have hz:=hZs _ (AX hi2);simp only[tZ,↓un_u,simprocAttr,Ax,qd hi2];generalize Z[i]=z at hz ⊢
  repeat (first | refine⟨oM,?_⟩ | refine⟨kR,?_⟩)
  obtain⟨Y,hY⟩:∃ Y:List Src,Y=[x,odd]:=⟨_,rfl⟩;have hY2:Y.length=2:=by rw[hY];rfl
  have hYs:∀ y∈Y,zb2 y∧y.rows.length≤12∧0<y.sch.lists.length:=fun y hy=>by
   rw[hY] at hy;simp only[Ck,List.not_mem_nil,or_false] at hy;rcases hy with e | e <;> rw[e]
   ·exact⟨hsm,h12,hL⟩
   ·exact⟨hsmo,h12o,hLo⟩
  refine qk mixm (α:=Nat) [100] (fun j=>j≤2) (fun j=>[(100,vI j)]) (fun j=>[(20488,.arr 5 [srcT x] false),(24592,.arr 12 [dclT d] false),(49156,.arr 5 [srcT odd] false),(57372,.arr 1 (Z.map vPs) false),(69640,.arr 5 (Y.map srcT) false)]) (fun j=>2-j) 0 oM ?_ fun j hj=>?_
  ·rw[hY];exact .oA [(20488,some 20488),(24592,some 24592),(49156,some 49156),(57372,some 57372),(69640,some 69640)] []
  refine sD ?_;refine⟨fun h5=>?_,fun h5=>?_⟩
  ·have hj2:j<Y.length:=by omega
   have hwj:=qh (i:=j) oM;obtain⟨y1,y2,y3⟩:=hYs _ (AX hj2);simp only[tZ,↓un_u,simprocAttr,Ax,qd hj2];generalize Y[j]=y at y1 y2 y3 ⊢
   have sB1:=ZG y d z k y1 y2 oM;have sB2:=qq7 y d z k y1 y3 oM;obtain⟨b1,b2,b3⟩:=jE3 (x:=y) d k hz;have sSm:=zD4 (jY y d z k) (jY y d z k) oM oM (fun r hr=>by have:=b3 r hr;omega);rw[jD7,zL4,ja4.2 rfl,beq_self_eq_true] at sSm;generalize jY y d z k=E at sB1 sB2 sSm ⊢
   repeat (first | refine⟨oM,?_⟩ | refine⟨kR,?_⟩)
   refine C1.im sB1 rF rF ?_;refine sW ?_
   repeat (first | refine⟨oM,?_⟩ | refine⟨kR,?_⟩)
   refine C1.im sB2 rF rF ?_;simp only[tZ,↓un_u,simprocAttr,bne_self_eq_false]
   repeat (first | refine⟨oM,?_⟩ | refine⟨kR,?_⟩)
   refine C2.im (fun _=>sSm) (fun _=>rfl) rF ?_;simp only[tZ,↓un_u,simprocAttr,hwj];refine⟨j+1,oM,oM,?_⟩;exact .oA [(20488,some 20488),(24592,some 24592),(49156,some 49156),(57372,some 57372),(69640,some 69640)] []
  ·simp only[tZ,↓un_u,simprocAttr,hwi];refine⟨i+1,oM,oM,?_⟩;exact .oA [(20488,some 20488),(24592,some 24592),(49156,some 49156),(57372,some 57372)] []
 ·refine C1.im (ZG x d P sec hsm h12 oM) rF rF ?_;refine sW ?_
  repeat (first | refine⟨oM,?_⟩ | refine⟨kR,?_⟩)
  refine C1.im (qq7 x d P sec hsm hL oM) rF rF ?_;simp only[tZ,↓un_u,simprocAttr,beq_self_eq_true]
  repeat (first | refine⟨oM,?_⟩ | refine⟨kR,?_⟩)
  refine C2.im (fun _=>qs8) (fun _=>rfl) rF ?_;refine sW ?_;exact .oA [] []
end Go.Proofs
