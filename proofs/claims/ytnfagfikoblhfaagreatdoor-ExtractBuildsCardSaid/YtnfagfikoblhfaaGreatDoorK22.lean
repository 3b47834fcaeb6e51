/- A part of the proof: trees of Go values, short forms, contracts. -/
import Derived.WalkKit
import Derived.Still
import Derived.MapKept
import GoSem.Builtin.Cap
import Derived.Laws.Externs
import GoSem.Extern.SlicesOverlaps
import Derived.Carry
import Derived.ProofKit
import Derived.OpenShut
import Derived.HandedShaped
import Derived.Lay
import Derived.LaidLaws
import Derived.MakeChecks
import Derived.SevenTiedAt
import Derived.Test.YtnfagfikoblhfaaGreatDoorChecked
import Derived.Test.YtnfagfikoblhfaaGreatDoorK21
set_option linter.unusedSimpArgs false
set_option linter.unusedVariables false
namespace Go.Proofs
open Go Go.TL
set_option maxRecDepth 4000
set_option maxHeartbeats 8000000
theorem qy3:∀ (c:Cnd) (m:Int),0≤m→m≤1000→Spc Tryz.prog 150 [cnT c,vI m] [] (vI (cntC c (m+1))) []:=by
 refine Cnd.ind' fun c ih m hm hm2=>?_;rw[JL];refine sIr qn3 fun e _ hst=>?_;unfold wL;refine sW ?_;refine qk mixm (α:=Nat×Int) [5,11] (fun y=>y.1≤c.kids.length∧jW c.kids (m+1) 1=jW (c.kids.drop y.1) (m+1) y.2∧y.2≤m+1∧y.1+1≤y.2) (fun y=>[(5,vI y.2),(11,vI y.1)]) (fun y=>[]) (fun y=>c.kids.length-y.1) (0,1) ⟨sMp,rfl,by dsimp only;omega,sMp⟩ ?_ fun y hy=>?_
 ·exact .oA [] []
 obtain⟨i,n⟩:=y;obtain⟨y1,y2,y3,y4⟩:=hy;dsimp only at y1 y2 y3 y4;rw[y2];refine sD ?_;refine⟨fun h=>?_,fun h=>?_⟩
 ·have hi:i<c.kids.length:=by omega
  have hwi:=qh (i:=i) oM;rw[zn4 hi,jW];simp only[tZ,↓un_u,simprocAttr,Ax,qd hi,zh,tD];refine⟨oM,fun h2=>?_,fun h2=>?_⟩
  ·rw[Aq oM];exact .oA [] []
  have hw:IntKind.i64.wrap (m-n)=m-n:=AK _ oM;have hc:=qB2 c.kids[i] (m-n+1) oM;have e1:m+1-n=m-n+1:=by omega
  have hw2:IntKind.i64.wrap (n+cntC c.kids[i] (m-n+1))=n+cntC c.kids[i] (m-n+1):=AK _ oM;rw[Aj oM,e1];simp only[tZ,↓un_u,simprocAttr,hw];refine C1.im (ih _ (AX hi) (m-n) oM oM) rF rF ?_;simp only[tZ,↓un_u,simprocAttr,hw2,hwi];refine⟨(i+1,n+cntC c.kids[i] (m-n+1)),⟨by dsimp only;omega,rfl,by dsimp only;omega,by dsimp only;omega⟩,by dsimp only;omega,?_⟩;exact .oA [] []
 ·rw[List.drop_of_length_le oM,jW];exact .oA [] []
theorem qG5:∀ (c:Cnd) (m:Int),1≤m→m≤1000→cntC c m<m→Spc Tryz.prog 151 [cnT c] [] (vI (depC c)) []:=by
 refine Cnd.ind' fun c ih m hm hm2 hc=>?_;have hd:=jr1 c m hm hc;rw[JL] at hc hd;obtain⟨hk1,hk2⟩:=qp9 oM hc;rw[qw6] at hd ⊢
 refine sIr qv4 fun e _ hst=>?_;unfold yw;refine sW ?_;refine qk mixm (α:=Nat) [3,9] (fun i=>i≤c.kids.length) (fun i=>[(3,vI (jx (c.kids.take i))),(9,vI i)]) (fun i=>[]) (fun i=>c.kids.length-i) 0 oM ?_ fun i hi=>?_
 ·refine .of [] [] rfl (by first | rfl | (rw[hst];rfl)) ?_ ?_
  all_goals (try simp only[tL,simprocAttr,By,List.map_cons,List.map_nil,BW,Cy,List.take_zero,jx])
  all_goals (try (repeat' (first | exact qZ | (apply zk;intro _;exact⟨rfl,rfl⟩) | (apply qA;intro _;exact⟨rfl,rfl⟩) | with_reducible apply qW | with_reducible refine qQ ⟨rfl,rfl⟩ ?_ | exact qY | with_reducible apply qR | with_reducible refine qX ⟨rfl,rfl,?_⟩ ?_ | with_reducible apply Az | exact qS rfl | exact qS (by assumption) | (refine⟨⟨?_,rfl,?_,rfl,?_⟩,trivial⟩ <;> first | (simp;done) | (apply qA;intro _;exact⟨rfl,rfl⟩)) | trivial | rfl | (rw[qh oM]) | omega)))
 have hdt:=qx4 c.kids i;refine sD ?_;refine⟨fun h=>?_,fun h=>?_⟩
 ·have hi2:i<c.kids.length:=by omega
  have hwi:=qh (i:=i) oM;have hs:jx (c.kids.take (i+1))=max (jx (c.kids.take i)) (depC c.kids[i]):=by rw[qH hi2,qx3]
  obtain⟨m',a1,a2,a3⟩:=hk2 _ (AX hi2);simp only[tZ,↓un_u,simprocAttr,Ax,qd hi2,zh];refine⟨oM,?_⟩;refine C1.im (ih _ (AX hi2) m' a1 oM a3) rF rF ?_;have hmx:maxI (jx (c.kids.take i):Int) (depC c.kids[i])=(jx (c.kids.take (i+1)):Int):=by rw[hs];unfold maxI;omega
  simp only[tZ,↓un_u,simprocAttr,hwi,hmx];refine⟨i+1,oM,oM,?_⟩;exact .oA [] []
 ·have hil:i=c.kids.length:=by omega
  subst hil;rw[Bw] at hdt ⊢
  have hw:=qh (i:=jx c.kids) oM;simp only[tZ,↓un_u,simprocAttr,hw];exact .oA [] []
theorem qG6 (op:Int):Spc Tryz.prog 252 [vI op] [] (vI (arC op)) []:=by
 refine sIr qw2 fun e _ hst=>?_;unfold yD;simp only[tZ,↓un_u,simprocAttr,Cnd.op,Cnd.col,Cnd.code,Cnd.lo,Cnd.hi,Cnd.kids];by_cases h5:op=5
 ·subst h5;refine sW ?_;exact .oA [] []
 by_cases h6:op=6
 ·subst h6;refine sW ?_;exact .oA [] []
 by_cases h7:op=7
 ·subst h7;refine sW ?_;exact .oA [] []
 have e:arC op=0:=by rw[arC,Aq oM,Aq h7]
 rw[e];simp only[tZ,↓un_u,simprocAttr,Ak.2 h5,Ak.2 h6,Ak.2 h7];exact .oA [] []
def unuC (c:Cnd):Bool:=if ((!isAt c&&(c.col != 0))||((c.op != 2)&&(c.code != 0)))=true then false else (c.op==3)||((c.lo==0)&&(c.hi==0))
theorem jP2 {c:Cnd}:unuC c=false↔(c.op≠2∧c.op≠3∧c.op≠4∧c.col≠0)∨(c.op≠2∧c.code≠0)∨(c.op≠3∧(c.lo≠0∨c.hi≠0)):=by
 unfold unuC isAt
 grind
theorem qs2 (c:Cnd):Spc Tryz.prog 253 [cnT c] [] (vB (unuC c)) []:=by
 refine sIr qh7 fun e _ hst=>?_;unfold wh;refine sW ?_;have hi:isAt c=((c.op==2)||(c.op==3)||(c.op==4)):=rfl;rw[← hi];unfold unuC;cases h:(!isAt c&&(c.col != 0))
 ·simp only[tZ,↓un_u,simprocAttr,h];cases h2:((c.op != 2)&&(c.code != 0))
  ·simp only[tZ,↓un_u,simprocAttr,h2];exact .oA [] []
  ·simp only[tZ,↓un_u,simprocAttr,h2];exact .oA [] []
 ·simp only[tZ,↓un_u,simprocAttr,h];exact .oA [] []
theorem qc4 (s:Sch) (hok:SchOk s) (c:Cnd):Spc Tryz.prog 207 [schT s,cnT c] [] (vI (ndE s c)) []:=by
 have hn0:=hok.nl;have hn1:=hok.nc;have hn:ndE s c=if c.op<1∨7<c.op then 4
 else if c.kids.length≠arC c.op∨(c.op≠2∧c.op≠3∧c.op≠4∧c.col≠0)∨(c.op≠2∧c.code≠0)∨(c.op≠3∧(c.lo≠0∨c.hi≠0)) then 11
 else if (c.op=2∧isB s c.col 2=false)∨(c.op=3∧isB s c.col 3=false)∨(c.op=4∧(isB s c.col 3=false∨(qj s c.col.toNat).opt=false)) then 7
 else if c.op=2∧(c.code<0∨c.code≥(qK s c.col.toNat).codes.length) then 6
 else if c.op=3∧(c.lo < -1000000∨c.hi>1000000∨c.lo>c.hi) then 2 else 0:=rfl
 have hu:=@jP2 c;generalize ndE s c=E at hn ⊢
 refine sIr Yk fun e _ hst=>?_;unfold jU;refine sD ?_;refine⟨fun h=>?_,fun h=>?_⟩
 ·rw[Aj oM] at hn;rw[hn];exact .oA [] []
 rw[Aq oM] at hn;refine C1.im (qG6 c.op) rF rF ?_;refine sW ?_;refine C2.im (fun _=>qs2 c) (fun _=>rfl) rF ?_;simp only[tZ,↓un_u,simprocAttr,Bj,Aw,Bx,Bz]
 repeat (first | refine⟨oM,?_⟩ | refine⟨kR,?_⟩)
 refine⟨fun h2=>?_,fun h2=>?_⟩
 ·rw[Aj (by grind)] at hn;rw[hn];exact .oA [] []
 rw[Aq (by grind)] at hn;by_cases hat:c.op≠2∧c.op≠3∧c.op≠4
 ·rw[Aq oM,Aq oM,Aq oM] at hn;rw[hn];simp only[tZ,↓un_u,simprocAttr,Bj.2 hat.1,Bj.2 hat.2.1,Bj.2 hat.2.2];exact .oA [] []
 have e1:((c.op != 2)&&(c.op != 3)&&(c.op != 4))=false:=by
  cases e:((c.op != 2)&&(c.op != 3)&&(c.op != 4)) with
  | false=>rfl
  | true=>exact absurd (by simpa [and_assoc] using e) hat
 simp only[tZ,↓un_u,simprocAttr,e1,tD];refine⟨fun h3=>?_,fun h3=>?_⟩
 ·have b2:isB s c.col 2=false:=by
   cases e:isB s c.col 2 with
   | false=>rfl
   | true=>have:=zl.1 e;omega
  have b3:isB s c.col 3=false:=by
   cases e:isB s c.col 3 with
   | false=>rfl
   | true=>have:=zl.1 e;omega
  rw[b2,b3,Aj (by grind)] at hn;rw[hn];exact .oA [] []
 obtain⟨i,hci⟩:=AJ (show 0≤c.col by omega);have hil:i<s.cols.length:=by omega
 have hat2:qj s i=s.cols[i]:=by rw[qj,qg hil]
 have hcd:=fun e=>hok.cdl hil e;have hcd2:=(za (hok.cs i hil)).2.2.2.1;have hcl:qK s i=s.lists.getD s.cols[i].list.toNat default:=by rw[qK,hat2]
 have hB:∀ k,isB s c.col k=(s.cols[i].kind==k):=fun k=>by
  rw[isB,hci,Ax,hat2,Cx oM,Cx oM];rfl
 rw[hB,hB,hci,Ax,hcl,hat2] at hn;rw[hat2,hcl] at hcd;rw[hat2] at hcd2;simp only[tZ,↓un_u,simprocAttr,hci,Ax,qd hil];generalize s.cols[i]=x at hn hcd hcd2 ⊢
 simp only[tZ,↓un_u,simprocAttr,AY,Ak,Bj,Aw];refine⟨oM,fun h4=>⟨fun h5=>?_,fun h5=>?_⟩,fun h4=>⟨fun h5=>⟨fun h6=>?_,fun h6=>?_⟩,fun h5=>?_⟩⟩
 ·rw[Aj (by grind)] at hn;rw[hn];exact .oA [] []
 ·rw[Aq (by grind)] at hn;obtain⟨d1,d2⟩:=hcd h5;obtain⟨d3,d4⟩:=hcd2 h5;rw[qg d1] at hn;simp only[tZ,↓un_u,simprocAttr,qd d1,tD];generalize s.lists[x.list.toNat]=l at hn
  repeat (first | refine⟨oM,?_⟩ | refine⟨kR,?_⟩)
  refine⟨fun h6=>?_,fun h6=>?_⟩
  ·rw[Aj (by grind)] at hn;rw[hn];exact .oA [] []
  ·rw[Aq (by grind),Aq (by grind)] at hn;rw[hn];exact .oA [] []
 ·rw[Aj (by grind)] at hn;rw[hn];exact .oA [] []
 ·rw[Aq (by grind),Aq (by grind)] at hn;refine sD ?_;refine⟨fun h7=>?_,fun h7=>?_⟩
  ·rw[Aj (by grind)] at hn;rw[hn];exact .oA [] []
  ·rw[Aq (by grind)] at hn;rw[hn];exact .oA [] []
 ·refine⟨fun h6=>?_,fun h6=>by omega⟩;refine⟨fun h7=>?_,fun h7=>?_⟩
  ·rw[Aj (by grind)] at hn;rw[hn];exact .oA [] []
  ·rw[Aq (by grind),Aq (by grind),Aq (by grind)] at hn;rw[hn];exact .oA [] []
theorem jV7 (op:Int):arC op≤2:=by
 unfold arC;split
 ·omega
 ·split <;> omega
theorem qc5 (s:Sch) (hok:SchOk s):∀ (c:Cnd),Spc Tryz.prog 152 [schT s,cnT c] [] (vI (nodE s c)) []:=by
 refine Cnd.ind' fun c ih=>?_;have hN:=zn0 s c;generalize nodE s c=N at hN ⊢
 refine sIr Yc fun e _ hst=>?_;unfold jR;refine sW ?_;refine C1.im (qc4 s hok c) rF rF ?_;simp only[tZ,↓un_u,simprocAttr,Bj,Aw];refine⟨fun h=>?_,fun h=>?_⟩
 ·rw[hN,Aj h];exact .oA [] []
 rw[Aq (by rw[h];simp)] at hN;have hnk:=(zV0 h).nk;have har:=jV7 c.op;rw[hN];refine qk mixm (α:=Nat) [18] (fun i=>i≤c.kids.length∧(yc s (c.kids.take i)=0)) (fun i=>[(18,vI i)]) (fun i=>[(4096,.arr 2 [schT s] false)]) (fun i=>c.kids.length-i) 0 ⟨oM,?_⟩ ?_ fun i hi=>?_
 ·rfl
 ·exact .oA [(4096,some 4096)] []
 simp only[tZ,↓un_u,simprocAttr,AZ,Ay];refine⟨fun h=>?_,fun h=>?_⟩
 ·have hi2:i<c.kids.length:=by omega
  have hi2:i<c.kids.length:=by omega
  have hwi:=qh (i:=i) oM;simp only[tZ,↓un_u,simprocAttr,Ax,qd hi2,hwi,zh];refine⟨oM,?_⟩;refine C1.im (ih _ (AX hi2)) rF rF ?_;simp only[tZ,↓un_u,simprocAttr,Bj,Aw];refine⟨fun h6=>?_,fun h6=>?_⟩
  ·rw[qi2 hi2 hi.2 h6];exact .oA [] []
  ·refine⟨i+1,⟨oM,by rw[qH hi2];exact qx5 hi.2 h6⟩,oM,?_⟩;exact .oA [(4096,some 4096)] []
 ·have hi2:i=c.kids.length:=by omega
  subst hi2;rw[List.take_of_length_le oM] at hi;rw[hi.2];exact .oA [] []
theorem jq (s:Sch) (hs:jI s) (c:Cnd):Spc Tryz.prog 86 [schT s,cnT c] [] (vI (chkC s c)) []:=by
 refine sIr qm1 fun e _ hst=>?_;unfold wF;refine sW ?_;refine C1.im (zK s hs.2.1 hs.1) rF rF ?_;simp only[tZ,↓un_u,simprocAttr,Bj,Aw];refine⟨fun h=>?_,fun h=>?_⟩
 ·rw[chkC,Aj h];exact .oA [] []
 have hok:=qV h;refine C1.im (qy3 c 40 oM oM) rF rF ?_;rw[show (40:Int)+1=41 from rfl];refine sD ?_;refine⟨fun h2=>?_,fun h2=>?_⟩
 ·rw[chkC,Aq (by rw[h];simp),Aj h2];exact .oA [] []
 refine C1.im (qG5 c 41 oM oM oM) rF rF ?_;refine sD ?_;refine⟨fun h3=>?_,fun h3=>?_⟩
 ·rw[chkC,Aq (by rw[h];simp),Aq h2,Aj oM];exact .oA [] []
 rw[chkC,Aq (by rw[h];simp),Aq h2,Aq oM];refine C1.im (qc5 s hok c) rF rF ?_;refine sW ?_;exact .oA [] []
theorem yJ (b:Bool):Spc Tryz.prog 248 [vB b] [] (vI (tf b)) []:=by
 refine sIr qo8 fun e _ hst=>?_;unfold wS;refine sW ?_;cases b
 ·refine sW ?_;exact .oA [] []
 ·refine sW ?_;exact .oA [] []
theorem Wh (s:Sch) (hok:SchOk s) (c:Cnd) (hc:NdOk s c) (ha:isAt c=true) (v:Int):Spc Tryz.prog 198 [schT s,cnT c,vI v] [] (vI (wU s c v)) []:=by
 have hn0:=hok.nl;have hn1:=hok.nc;have hA:wU s c v=if c.op=2 then tf (Yo (qK s c.col.toNat) v c.code)
 else if c.op=3 then (if v=kH then 0 else tf (decide (c.lo≤v)&&decide (v≤c.hi)))
 else if c.op=4 then tf (v==kH) else -1:=rfl
 rw[hA];by_cases h2:c.op=2
 ·obtain⟨b,b4,b5⟩:=hc.under h2;obtain⟨b1,b2,b3⟩:=zl.1 b;obtain⟨i,hci⟩:=AJ b1;rw[hci] at b2 b5;rw[hci,Ax] at b3;rw[Ax] at b5;have hil:i<s.cols.length:=by omega
  have hat:qj s i=s.cols[i]:=by rw[qj,qg hil]
  have hcd:=hok.cdl hil b3;have hcd2:=(za (hok.cs i hil)).2.2.2.1 b3;have hcl:qK s i=s.lists.getD s.cols[i].list.toNat default:=by rw[qK,hat]
  rw[hat] at hcd hcd2;rw[Aj h2,hci,Ax];rw[hcl,qg hcd.1] at hcd ⊢
  have q:(c.op==2)=true:=AY.2 h2;refine sIr yB fun e _ hst=>?_;unfold jm;simp only[tZ,↓un_u,simprocAttr,q,hci,Ax,qd hil,qd hcd.1];refine⟨oM,oM,?_⟩;refine C1.im (zp5 _ v c.code) rF rF ?_;refine sW ?_
  repeat (first | refine⟨oM,?_⟩ | refine⟨kR,?_⟩)
  refine C1.im (yJ _) rF rF ?_;refine sW ?_
  repeat (first | refine⟨oM,?_⟩ | refine⟨kR,?_⟩)
  exact .oA [] []
 have q:(c.op==2)=false:=Ak.2 h2;rw[Aq h2];by_cases h4:c.op=4
 ·have q4:(c.op==4)=true:=AY.2 h4;rw[Aq oM,Aj h4];refine sIr yB fun e _ hst=>?_;unfold jm;simp only[tZ,↓un_u,simprocAttr,q,q4];rw[show (-1099511627776:Int)=kH from rfl];refine C1.im (yJ _) rF rF ?_;refine sW ?_;exact .oA [] []
 have q4:(c.op==4)=false:=Ak.2 h4;have h3:c.op=3:=by
  unfold isAt at ha;rw[q,q4] at ha;simpa using ha
 rw[Aj h3];refine sIr yB fun e _ hst=>?_;unfold jm;simp only[tZ,↓un_u,simprocAttr,q,q4,AY,Ak];rw[show (-1099511627776:Int)=kH from rfl];refine⟨fun h=>?_,fun h=>?_⟩
 ·rw[Aj h];exact .oA [] []
 ·rw[Aq h];refine C1.im (yJ _) rF rF ?_;refine sW ?_;exact .oA [] []
theorem qy4:∀ (c:Cnd) (m:Int),1≤m→m≤1000→cntC c m<m→Spc Tryz.prog 194 [cnT c] [] (vCs (atsC c)) []:=by
 refine Cnd.ind' fun c ih m hm hm2 hc=>?_;have hal:=qQ4 c m hm hc;rw[JL] at hc hal;obtain⟨hk1,hk2⟩:=qp9 oM hc;have hi:isAt c=((c.op==2)||(c.op==3)||(c.op==4)):=rfl;refine sIr qo1 fun e _ hst=>?_;unfold wP;refine sW ?_;rw[← hi];refine⟨fun h=>?_,fun h=>?_⟩
 ·rw[qw7,Aj h];show yh [] _ _ (.sl 6 [cndT c]) [];rw[zh];exact .oA [] [12292]
 ·rw[qw7,Aq (by rw[h];simp)] at hal ⊢
  refine qk mixm (α:=Nat) [3,24,18] (fun i=>i≤c.kids.length) (fun i=>[(3,.asl 1 (ZM (c.kids.take i)).length),(24,vI i)]) (fun i=>[(1,.arr 6 ((ZM (c.kids.take i)).map cndT) false)]) (fun i=>c.kids.length-i) 0 oM ?_ fun i hi2=>?_
  ·exact .oA [(1,none)] []
  have htl:=wY c.kids i;refine sD ?_;refine⟨fun h5=>?_,fun h5=>?_⟩
  ·have hi2:i<c.kids.length:=by omega
   have hwi:=qh (i:=i) oM;obtain⟨m',a1,a2,a3⟩:=hk2 _ (AX hi2);have htl2:=wY c.kids (i+1);rw[qH hi2,Kf,AW] at htl2;simp only[tZ,↓un_u,simprocAttr,Ax,qd hi2,zh];refine⟨oM,?_⟩;refine C1.im (ih _ (AX hi2) m' a1 oM a3) rF rF ?_;simp only[tZ,↓un_u,simprocAttr,hwi];refine⟨oM,i+1,oM,oM,?_⟩;rw[qH hi2,Kf,By];refine .of [(1,some 1)] [] rfl (by first | rfl | (rw[hst];rfl)) ?_ ?_
   all_goals (try simp only[tL,simprocAttr,By,List.map_cons,List.map_nil,BW,Cy,Dj])
   all_goals (try (repeat' (first | exact qZ | (apply zk;intro _;exact⟨rfl,rfl⟩) | (apply qA;intro _;exact⟨rfl,rfl⟩) | with_reducible apply qW | with_reducible refine qQ ⟨rfl,rfl⟩ ?_ | exact qY | with_reducible apply qR | with_reducible refine qX ⟨rfl,rfl,?_⟩ ?_ | with_reducible apply Az | exact qS rfl | exact qS (by assumption) | (refine⟨⟨?_,rfl,?_,rfl,?_⟩,trivial⟩ <;> first | (simp;done) | (apply qA;intro _;exact⟨rfl,rfl⟩)) | trivial | rfl | (rw[qh oM]) | omega)))
   all_goals first | exact zn7 _ | exact zB7 _
  ·have hil:i=c.kids.length:=by omega
   subst hil;rw[Bw];refine .of [] [1] rfl (by first | rfl | (rw[hst];rfl)) ?_ ?_
   all_goals (try simp only[tL,simprocAttr,By,List.map_cons,List.map_nil,BW,Cy,Dj])
   all_goals (try (repeat' (first | exact qZ | (apply zk;intro _;exact⟨rfl,rfl⟩) | (apply qA;intro _;exact⟨rfl,rfl⟩) | with_reducible apply qW | with_reducible refine qQ ⟨rfl,rfl⟩ ?_ | exact qY | with_reducible apply qR | with_reducible refine qX ⟨rfl,rfl,?_⟩ ?_ | with_reducible apply Az | exact qS rfl | exact qS (by assumption) | (refine⟨⟨?_,rfl,?_,rfl,?_⟩,trivial⟩ <;> first | (simp;done) | (apply qA;intro _;exact⟨rfl,rfl⟩)) | trivial | rfl | (rw[qh oM]) | omega)))
   all_goals first | exact zn7 _ | exact zB7 _
end Go.Proofs
namespace Go.Proofs
open Go Go.TL
set_option maxRecDepth 4000
set_option maxHeartbeats 8000000
theorem Wi (n w:Int) (hw:0<w∧w≤1000000) (hn : -4611686018427387904<n∧n<4611686018427387904):Spc Tryz.prog 247 [vI n,vI w] [] (vI (qJ n w*w)) []:=by
 rw[zK3 hw.1];have h2:=Int.tmod_lt_of_pos n hw.1;have h3:=Int.lt_tmod_of_pos n hw.1;have w1:IntKind.i64.wrap (n.tmod w)=n.tmod w:=AK _ oM;have w2:IntKind.i64.wrap (n.tmod w+w)=n.tmod w+w:=AK _ oM;have w3:IntKind.i64.wrap (n-n.tmod w)=n-n.tmod w:=AK _ oM;have w4:IntKind.i64.wrap (n-(n.tmod w+w))=n-(n.tmod w+w):=AK _ oM;refine sIr qw0 fun e _ hst=>?_;unfold yC;simp only[tZ,↓un_u,simprocAttr,w1,w2,w3,w4,tD];refine⟨oM,fun h=>?_,fun h=>?_⟩
 ·rw[Aj h];exact .oA [] []
 ·rw[Aq h];exact .oA [] []
theorem qy5 (c:Col) (lev:Int) (h1:1≤lev∧lev≤c.widths.length) (h2:c.widths.length<4611686018427387904):Spc Tryz.prog 246 [colT c,vI lev] [] (vI (qE c lev)) []:=by
 have hw:IntKind.i64.wrap ((c.widths.length:Int)-lev)=(c.widths.length:Int)-lev:=AK _ oM;have hk:((c.widths.length:Int)-lev).toNat<c.widths.length:=by omega
 refine sIr qo6 fun e _ hst=>?_;unfold wR;simp only[tZ,↓un_u,simprocAttr,hw,qd hk];rw[qE,qg hk];refine⟨oM,?_⟩;exact .oA [] []
theorem qs3 (k k' v:Int):∀ l:List (Int×Int),TL.look TL.eqI k (TL.asg TL.eqI k' v l)=if k=k' then some v else TL.look TL.eqI k l
 | []=>by
   simp only[TL.asg,TL.look,TL.eqI,AY]
 | (a,b)::r=>by
   have ih:=qs3 k k' v r;simp only[TL.asg,TL.eqI,AY] at ih ⊢
   by_cases h:k'=a
   ·subst h;rw[Aj rfl];simp only[TL.look,TL.eqI,AY];split <;> rfl
   ·rw[Aq h];simp only[TL.look,TL.eqI,AY];rw[ih];by_cases h2:k=a
    ·subst h2;rw[Aj rfl,Aq (fun e=>h e.symm),Aj rfl]
    ·rw[Aq h2,Aq h2]
theorem zE0 {n w:Int} (hw:0<w):(qJ n w*w==n)=(n.tmod w==0):=by
 rw[zK3 hw,Bool.eq_iff_iff,AY,AY];have h2:=Int.tmod_lt_of_pos n hw;have h3:=Int.lt_tmod_of_pos n hw;split <;> omega
theorem qc6 (s:Sch) (hE:schE s=0) (c:Cnd) (hnd:NdOk s c) (ha:isAt c=true) (lev:Nat) (hl:(lev:Int)≤finI s c.col):Spc Tryz.prog 195 [schT s,cnT c,vI lev] [] (vB (decB s c lev)) []:=by
 have hok:=qV hE;have hn0:=hok.nl;have hn1:=hok.nc;obtain⟨_,c1,c2,hfin⟩:=wW (s:=s) (c:=c.col) oM;obtain⟨i,hci⟩:=AJ (show 0≤c.col by omega);have hcn:c.col.toNat=i:=by omega
 have hil:i<s.cols.length:=by omega
 have hat:qj s i=s.cols[i]:=by rw[qj,qg hil]
 have hcd:=fun e=>hok.cdl hil e;have hcd2:=(za (hok.cs i hil)).2.2.2.1;have hwd:=fun e l=>hok.wid hil oM e (lev:=l);have hll:=Ki hok hil;have hcl:qK s i=s.lists.getD s.cols[i].list.toNat default:=by rw[qK,hat]
 have hlh:=fun h2 v=>YP (s:=s) (i:=i) h2 (v:=v);have hfi:∀ h2:(qj s i).kind=2,finI s c.col=zf (qK s i)-1:=fun h2=>by rw[hfin,hcn,Aj h2]
 have hco:∀ h2:(qj s i).kind=2,∀ v∈qT s i,qU s c.col lev v=upC (qK s i) v lev:=fun h2 v hv=>by
  have:=YP h2 (hcd h2).2 hv;rw[qU,Aq (by rw[Ez,Qy];omega),hcn,Aj h2,Aq (by rw[this];simp)]
 rw[hcn,hat] at hfin;rw[hat] at hwd hll hcd hcd2 hfi hco;have hD:decB s c lev=if c.op=2 then qi1 (qT s i).length (decP s c lev)
 else if c.op=4 then decide (0<lev)
 else if lev=0 then !s.cols[i].opt&&!(decide (s.cols[i].low<c.lo)&&decide (c.lo≤s.cols[i].high))&&!(decide (s.cols[i].low≤c.hi)&&decide (c.hi<s.cols[i].high))
  else (!(decide (s.cols[i].low<c.lo)&&decide (c.lo≤s.cols[i].high))||(c.lo.tmod (qE s.cols[i] lev)==0))&&(!(decide (s.cols[i].low≤c.hi)&&decide (c.hi<s.cols[i].high))||((c.hi+1).tmod (qE s.cols[i] lev)==0)):=by
  rw[decB,hcn,hat]
 have hk2:c.op=2→s.cols[i].kind=2:=fun h=>by
  have:=(zl.1 (hnd.under h).1).2.2;rw[hcn,hat] at this;exact this
 have hk3:c.op=3→s.cols[i].kind=3:=fun h=>by
  have:=(zl.1 (hnd.between h).1).2.2;rw[hcn,hat] at this;exact this
 have hm4:c.op=4→s.cols[i].opt=true:=fun h=>by
  have:=(hnd.miss h).2;rw[hcn,hat] at this;exact this
 have hPd:∀ L,qT s i=L→∀ j k,decP s c lev j k=!((qU s c.col lev (L.getD j 0)==qU s c.col lev (L.getD k 0))&&!(wU s c (L.getD j 0)==wU s c (L.getD k 0))):=fun L hL j k=>by rw[decP,hcn,hL]
 have hlv:qT s i=atL (qK s i) (zf (qK s i)-1):=rfl;rw[hD];rw[hcl] at hcd hco hlv;refine sIr Yh fun e _ hst=>?_;unfold jT;simp only[tZ,↓un_u,simprocAttr,hcn,qd hil];have hmw:s.cols[i].kind=3→1≤s.cols[i].widths.length:=fun h=>by
  have:=(za (hok.cs i hil)).2.2.2.2 (by rw[hat];exact h);rw[hat] at this;unfold measE at this
  grind
 generalize s.cols[i]=x at hmw hwd hfin hll hk2 hk3 hm4 hcd hcd2 hco hlv ⊢
 simp only[tZ,↓un_u,simprocAttr,AY,Ak];refine⟨oM,fun h2=>?_,fun h2=>?_⟩
 ·rw[Aj h2];obtain⟨d1,d2⟩:=hcd (hk2 h2);obtain⟨d3,d4⟩:=hcd2 (hk2 h2);have hco:=hco (hk2 h2);have hll:=hll (hk2 h2);have hPd:=hPd _ rfl;rw[qg d1] at d2 hco hlv;rw[hlv] at hco hll hPd ⊢
  have hAt:=Wh s hok c hnd ha;simp only[tZ,↓un_u,simprocAttr,qd d1];refine⟨oM,?_⟩;generalize s.lists[x.list.toNat]=l at d2 hco hll hPd ⊢
  have hlvl:=Yp (l:=l);have hw2:IntKind.i64.wrap (zf l-1)=zf l-1:=AK _ oM;refine C1.im (yN l) rF rF ?_;simp only[tZ,↓un_u,simprocAttr,hw2];refine C1.im (YU l (zf l-1)) rF rF ?_;refine sW ?_
  repeat (first | refine⟨oM,?_⟩ | refine⟨kR,?_⟩)
  generalize atL l (zf l-1)=L at hco hll hPd ⊢
  refine qk mixm (α:=Nat×List (Int×Int)) [41] (fun y=>y.1≤L.length∧qi1 y.1 (decP s c lev)=true∧(∀ a,a<y.1→TL.look TL.eqI (upC l (L.getD a 0) lev) y.2=some (wU s c (L.getD a 0)))∧∀ k v,TL.look TL.eqI k y.2=some v→∃ a,a<y.1∧upC l (L.getD a 0) lev=k∧wU s c (L.getD a 0)=v) (fun y=>[(41,vI y.1)]) (fun y=>[(4096,.arr 2 [schT s] false),(4100,.arr 6 [cnT c] false),(16408,.arr 2 [cdlT l] false),(20480,.mp (.ii y.2))]) (fun y=>L.length-y.1) (0,[]) ⟨sMp,rfl,sMp,by simp [TL.look]⟩ ?_ fun y hy=>?_
  ·exact .oA [(4096,some 4096),(4100,some 4100),(16408,some 16408),(20480,some 20480)] []
  obtain⟨j,M⟩:=y;obtain⟨y1,y2,y3,y4⟩:=hy;dsimp only at y1 y2 y3 y4;refine sD ?_;refine⟨fun h3=>?_,fun h3=>?_⟩
  ·have hj2:j<L.length:=by omega
   have hwj:=qh (i:=j) oM;have hgj:L.getD j 0=L[j]:=qg hj2;have hP:∀ a,a<j→decP s c lev j a=!((upC l L[j] lev==upC l (L.getD a 0) lev)&&!(wU s c L[j]==wU s c (L.getD a 0))):=fun a ha=>by
    rw[hPd,hgj,hco L[j] (AX hj2),hco (L.getD a 0) (by rw[qg (show a<L.length by omega)];exact AX _)]
   have hlk:=qs3;simp only[tZ,↓un_u,simprocAttr,Ax,qd hj2];refine⟨oM,?_⟩;refine C1.im (Kl l L[j] lev) rF rF ?_;refine sW ?_;refine C1.im (hAt L[j]) rF rF ?_;refine sW ?_
   repeat (first | refine⟨oM,?_⟩ | refine⟨kR,?_⟩)
   have hfin:∀ v,(∀ w,TL.look TL.eqI (upC l L[j] lev) M=some w→w=wU s c L[j])→v=wU s c L[j]→(j+1≤L.length∧qi1 (j+1) (decP s c lev)=true∧(∀ a,a<j+1→TL.look TL.eqI (upC l (L.getD a 0) lev) (TL.asg TL.eqI (upC l L[j] lev) v M)=some (wU s c (L.getD a 0)))∧∀ k w,TL.look TL.eqI k (TL.asg TL.eqI (upC l L[j] lev) v M)=some w→∃ a,a<j+1∧upC l (L.getD a 0) lev=k∧wU s c (L.getD a 0)=w):=fun v hv e=>by
    subst e;have hsame:∀ a,a<j→upC l (L.getD a 0) lev=upC l L[j] lev→wU s c (L.getD a 0)=wU s c L[j]:=fun a ha he=>by
     have:=y3 a ha;rw[he] at this;exact hv _ this
    refine⟨oM,?_,fun a h5=>?_,fun k w h5=>?_⟩
    ·rw[qw8,y2,Fq,Bk];intro a ha;rw[Dk] at ha;rw[hP a ha];by_cases q:upC l (L.getD a 0) lev=upC l L[j] lev
     ·rw[hsame a ha q];simp
     ·rw[Ak.2 (fun e=>q e.symm)];rfl
    ·rw[qs3];by_cases q:a=j
     ·subst q;rw[hgj,Aj rfl]
     ·split
      ·rename_i q2;rw[hsame a oM q2]
      ·exact y3 a oM
    ·rw[qs3] at h5;split at h5
     ·rename_i q;exact⟨j,oM,by rw[hgj,q],by rw[hgj];simpa using h5⟩
     ·obtain⟨a,a1,a2,a3⟩:=y4 k w h5;exact⟨a,oM,a2,a3⟩
   cases hf:TL.look TL.eqI (upC l L[j] lev) M with
   | none=>
     simp only[tZ,↓un_u,simprocAttr,hf,Option.isSome_none,hwj];refine⟨fun h=>by simp at h,fun _=>⟨(j+1,_),hfin _ (fun w h=>by rw[hf] at h;cases h) rfl,by dsimp only;omega,?_⟩⟩;exact .oA [(4096,some 4096),(4100,some 4100),(16408,some 16408),(20480,some 20480)] []
   | some w=>
     simp only[tZ,↓un_u,simprocAttr,hf,Option.isSome_some,Option.getD_some,Bj,Aw,hwj];refine⟨fun h5=>?_,fun h5=>?_⟩
     ·obtain⟨a,a1,a2,a3⟩:=y4 _ _ hf;rw[zn2 hj2 a1 (by rw[hP a a1,a2,a3,beq_self_eq_true,Ak.2 (fun e=>h5 e.symm)];rfl)];exact .oA [] []
     ·refine⟨(j+1,_),hfin _ (fun w' h=>by rw[hf] at h;cases h;exact h5) rfl,by dsimp only;omega,?_⟩;exact .oA [(4096,some 4096),(4100,some 4100),(16408,some 16408),(20480,some 20480)] []
  ·have hjl:j=L.length:=by omega
   subst hjl;rw[y2];exact .oA [] []
 rw[Aq h2];by_cases h4:c.op=4
 ·rw[Aj h4];have ho:=hm4 h4;by_cases hz:lev=0
  ·subst hz;simp only[tZ,↓un_u,simprocAttr,ho];exact .oA [] []
  ·have e0:((lev:Int)==0)=false:=Ak.2 oM;simp only[tZ,↓un_u,simprocAttr,e0,AY,Ak];rw[Cx (show 0<lev by omega)];refine⟨fun h=>by simp at h,fun _=>⟨fun _=>?_,fun h=>absurd h4 h⟩⟩;exact .oA [] []
 rw[Aq h4];have h3:c.op=3:=by
  unfold isAt at ha;simp only[DZ,AY] at ha;omega
 have hk3:=hk3 h3;have hb:=hnd.between h3;rw[Aq oM] at hfin;have q4:(c.op==4)=false:=Ak.2 h4;have hxw:=hmw hk3;obtain⟨_,_,_,x4,x5,x6,x7,_⟩:=hwd oM 1 oM;by_cases hz:lev=0
 ·subst hz;simp only[tZ,↓un_u,simprocAttr,zD8,js8,tD];refine⟨fun h=>?_,fun h=>⟨fun k=>absurd k h4,fun _=>?_⟩⟩
  ·rw[h];exact .oA [] []
  ·rw[h]
   repeat (first | refine⟨oM,?_⟩ | refine⟨kR,?_⟩)
   refine⟨fun h5=>?_,fun h5=>?_⟩
   ·rw[show (!false&&!(decide (x.low<c.lo)&&decide (c.lo≤x.high))&&!(decide (x.low≤c.hi)&&decide (c.hi<x.high)))=true by grind];exact .oA [] []
   ·rw[show (!false&&!(decide (x.low<c.lo)&&decide (c.lo≤x.high))&&!(decide (x.low≤c.hi)&&decide (c.hi<x.high)))=((max c.lo x.low==x.low)&&(min c.hi x.high==x.high)) by grind];exact .oA [] []
 have e0:((lev:Int)==0)=false:=Ak.2 oM;rw[Aq hz];obtain⟨w1,w2,_⟩:=hwd oM lev oM;simp only[tZ,↓un_u,simprocAttr,e0,zD8,js8,tD];refine fun _=>⟨fun k=>absurd k h4,fun _=>?_⟩
 repeat (first | refine⟨oM,?_⟩ | refine⟨kR,?_⟩)
 refine⟨fun h5=>?_,fun h5=>?_⟩
 ·rw[show ((!(decide (x.low<c.lo)&&decide (c.lo≤x.high))||(c.lo.tmod (qE x lev)==0))&&(!(decide (x.low≤c.hi)&&decide (c.hi<x.high))||((c.hi+1).tmod (qE x lev)==0)))=true by grind];exact .oA [] []
 refine⟨fun h=>by omega,fun _=>?_⟩;refine C1.im (qy5 x lev oM oM) rF rF ?_;generalize qE x lev=w at w1 w2 ⊢
 have hF:((!(decide (x.low<c.lo)&&decide (c.lo≤x.high))||(c.lo.tmod w==0))&&(!(decide (x.low≤c.hi)&&decide (c.hi<x.high))||((c.hi+1).tmod w==0)))=(((max c.lo x.low==x.low)||(qJ (max c.lo x.low) w*w==max c.lo x.low))&&((min c.hi x.high==x.high)||(qJ (min c.hi x.high+1) w*w==min c.hi x.high+1))):=by
  rw[zE0 oM,zE0 oM]
  congr 1
  ·by_cases k:x.low<c.lo
   ·rw[show max c.lo x.low=c.lo by omega,Cx k,Cx (show c.lo≤x.high by omega),Ak.2 (show c.lo≠x.low by omega)]
    rfl
   ·rw[show max c.lo x.low=x.low by omega,Cq k,beq_self_eq_true];simp
  ·by_cases k:c.hi<x.high
   ·rw[show min c.hi x.high=c.hi by omega,Cx k,Cx (show x.low≤c.hi by omega),Ak.2 (show c.hi≠x.high by omega)]
    rfl
   ·rw[show min c.hi x.high=x.high by omega,Cq k,beq_self_eq_true];simp
 rw[hF];have hwm:IntKind.i64.wrap (min c.hi x.high+1)=min c.hi x.high+1:=AK _ oM;refine sW ?_;refine C2.im (fun _=>Wi (max c.lo x.low) w oM oM) (fun _=>rfl) rF ?_;simp only[tZ,↓un_u,simprocAttr,hwm];refine C2.im (fun _=>Wi (min c.hi x.high+1) w oM oM) (fun _=>rfl) rF ?_;simp only[tZ,↓un_u,simprocAttr,hwm]
 repeat (first | refine⟨oM,?_⟩ | refine⟨kR,?_⟩)
 exact .oA [] []
end Go.Proofs
namespace Go.Proofs
open Go Go.TL
set_option maxRecDepth 4000
set_option maxHeartbeats 8000000
def canF (f:Nat→Int):Nat→List Pk
 | 0=>[]
 | n+1=>canF f n++(if 0<f n then [⟨n,f n⟩] else [])
theorem Km {f g:Nat→Int}:∀ {n:Nat},(∀ k,k<n→f k=g k)→canF f n=canF g n
 | 0,_=>rfl
 | n+1,h=>by rw[canF,canF,Km fun k hk=>h k oM,h n oM]
theorem zq0 (f:Nat→Int):∀ n,(canF f n).length≤n
 | 0=>BZ _
 | n+1=>by
   have:=zq0 f n;rw[canF,AW];split <;> simp <;> omega
theorem qS3 {f:Nat→Int}:∀ {n:Nat},(∀ k,k<n→f k≤0)→canF f n=[]
 | 0,_=>rfl
 | n+1,h=>by
   have:=h n oM;rw[canF,qS3 fun k hk=>h k oM,Aq oM];rfl
theorem zE1 {f:Nat→Int} {n:Nat}:∀ d,(∀ k,n≤k→k<n+d→f k≤0)→canF f (n+d)=canF f n
 | 0,_=>rfl
 | d+1,h=>by
   have:=h (n+d) oM oM;rw[show n+(d+1)=n+d+1 from rfl,canF,Aq oM,CW,zE1 d fun k h1 h2=>h k h1 oM]
theorem YW {f:Nat→Int} {p:Pk}:∀ {n:Nat},p∈canF f n↔∃ k,k<n∧0<f k∧p=⟨k,f k⟩
 | 0=>by simp [canF]
 | n+1=>by
   rw[canF,Dz,YW];constructor
   ·rintro (⟨k,h1,h2,h3⟩ | h)
    ·exact⟨k,oM,h2,h3⟩
    ·split at h
     ·rename_i h2;exact⟨n,oM,h2,by simpa using h⟩
     ·simp at h
   ·rintro ⟨k,h1,h2,h3⟩;by_cases e:k=n
    ·subst e;right;rw[Aj h2];simpa using h3
    ·exact .inl ⟨k,oM,h2,h3⟩
def upd (f:Nat→Int) (c:Nat) (v:Int):Nat→Int:=fun k=>if k=c then max (f k) v else f k
theorem zg1 {f:Nat→Int} (hf:∀ k,0≤f k) (c:Nat) (v:Int):∀ m,∀ x,(canF f m).foldl (Wz c v) ([],decide (v≤0))=x→
 (m≤c→x.2=decide (v≤0))∧(x.2=true→x.1=canF (upd f c v) m)∧(x.2=false→0<v∧x.1++(if c<m then [⟨c,v⟩] else [])=canF (upd f c v) m)
 | 0,x,h=>by
   subst h;refine⟨fun _=>rfl,fun _=>rfl,fun h=>⟨?_,by rw[Aq oM];rfl⟩⟩;have:=of_decide_eq_false h;omega
 | m+1,x,h=>by
   rw[canF,Gx] at h;obtain⟨i1,i2,i3⟩:=zg1 hf c v m _ rfl;generalize (canF f m).foldl (Wz c v) ([],decide (v≤0))=y at h i1 i2 i3;obtain⟨l,b⟩:=y;dsimp only at i1 i2 i3;have hm:=hf m;by_cases h0:0<f m
   ·rw[Aj h0,Dw,List.foldl_nil] at h;unfold Wz at h;dsimp only at h;rcases Nat.lt_trichotomy m c with q | q | q
    ·rw[Aq oM,Aq oM] at h;subst h;have hu:upd f c v m=f m:=by rw[upd,Aq oM]
     refine⟨fun _=>i1 oM,fun e=>?_,fun e=>⟨(i3 e).1,?_⟩⟩
     ·dsimp only at e ⊢
      rw[i2 e,canF,hu,Aj h0]
     ·dsimp only at e ⊢
      have:=(i3 e).2;rw[Aq oM,CW] at this;rw[Aq oM,CW,this,canF,hu,Aj h0]
    ·subst q;rw[Aj rfl,Aq (show ¬ ((m:Int)>m∧b=false) from fun h=>by omega)] at h;subst h;have hu:upd f m v m=max (f m) v:=by rw[upd,Aj rfl]
     refine⟨fun e=>by omega,fun _=>?_,fun e=>by simp at e⟩;dsimp only;have:l=canF (upd f m v) m:=by
      cases b with
      | true=>exact i2 rfl
      | false=>
        have:=(i3 rfl).2;rw[Aq oM,CW] at this;exact this
     rw[this,canF,hu,Aj oM]
    ·have hu:upd f c v m=f m:=by rw[upd,Aq oM]
     have hc:((m:Int)>(c:Int)):=by omega
     cases b with
     | true=>
       rw[Aq (show ¬ ((m:Int)=c) by omega),Aq (show ¬ ((m:Int)>c∧true=false) from fun h=>by simp at h)] at h;subst h;refine⟨fun e=>by omega,fun _=>?_,fun e=>by simp at e⟩;dsimp only;rw[i2 rfl,canF,hu,Aj h0]
     | false=>
       rw[Aq (show ¬ ((m:Int)=c) by omega),Aj ⟨hc,rfl⟩] at h;subst h;refine⟨fun e=>by omega,fun _=>?_,fun e=>by simp at e⟩;dsimp only;have:=(i3 rfl).2;rw[Aj q] at this;rw[this,canF,hu,Aj h0]
   ·rw[Aq h0,List.foldl_nil] at h;subst h;dsimp only;have f0:f m=0:=by omega
    by_cases q:m=c
    ·subst q;have hu:upd f m v m=max 0 v:=by rw[upd,Aj rfl,f0]
     refine⟨fun e=>by omega,fun e=>?_,fun e=>⟨(i3 e).1,?_⟩⟩
     ·have hv:v≤0:=by
       have:=i1 (BZ _);rw[e] at this;exact of_decide_eq_true this.symm
      rw[i2 e,canF,hu,Aq oM,CW]
     ·have:=(i3 e).2;rw[Aq oM,CW] at this;have hv:=(i3 e).1;rw[this,canF,hu,Aj oM,Aj oM,show max 0 v=v by omega]
    ·have hu:upd f c v m=f m:=by rw[upd,Aq q]
     refine⟨fun e=>i1 oM,fun e=>?_,fun e=>⟨(i3 e).1,?_⟩⟩
     ·rw[i2 e,canF,hu,Aq h0,CW]
     ·have:=(i3 e).2;rw[canF,hu,Aq h0,CW,← this];by_cases q2:c<m
      ·rw[Aj q2,Aj oM]
      ·rw[Aq q2,Aq oM]
theorem zg2 {f:Nat→Int} (hf:∀ k,0≤f k) {c n:Nat} (hc:c<n) (v:Int):QK (canF f n) c v=canF (upd f c v) n:=by
 obtain⟨_,i2,i3⟩:=zg1 hf c v n _ rfl;unfold QK;dsimp only;split
 ·rename_i h;exact i2 h
 ·rename_i h;have:=(i3 (by simpa using h)).2;rw[Aj hc] at this;exact this
abbrev lvF (lv:List Int):Nat→Int:=fun k=>lv.getD k 0
theorem jP3 {lv:List Int} {c:Nat} (hc:c<lv.length) (v:Int):lvF (lv.set c (max lv[c] v))=upd (lvF lv) c v:=by
 funext k
 unfold lvF upd;simp only[CY,List.getElem?_set];by_cases e:c=k
 ·subst e;simp [hc]
 ·rw[Aq e,Aq (fun h=>e h.symm)]
theorem jP4 {lv:List Int} (h:∀ x∈lv,0≤x) (k:Nat):0≤lvF lv k:=by
 unfold lvF;by_cases hk:k<lv.length
 ·rw[qg hk];exact h _ (AX hk)
 ·simp [List.getD,List.getElem?_eq_none (show lv.length≤k by omega)]
theorem jD1 (n:Nat):canF (lvF (List.replicate n 0)) n=[]:=qS3 fun k hk=>by
 unfold lvF;rw[qg (by simpa using hk),List.getElem_replicate];omega
theorem qy6 (s:Sch) (hs:jI s) (c:Cnd):Spc Tryz.prog 138 [schT s,cnT c] [] (vPs (zR s c)) []:=by
 refine sIr qn1 fun e _ hst=>?_;unfold wK;refine sW ?_;refine C1.im (jq s hs c) rF rF ?_;simp only[tZ,↓un_u,simprocAttr,Bj,Aw];refine⟨fun h=>?_,fun h=>?_⟩
 ·rw[zR,Aj h];exact .oA [] []
 obtain⟨hE,k2,k3,k4⟩:=qx6 h;have hok:=qV hE;have hnc:=hok.nc;have hal:=qQ4 c 41 oM k2;have hao:=jr0 c k4;have hN:zR s c=(atsC c).foldl (qG0 s) []:=by rw[zR,Aq (by rw[h];simp)];rfl
 rw[hN];refine⟨oM,?_⟩;refine C1.im (qy4 c 41 oM oM k2) rF rF ?_;generalize atsC c=L at hal hao ⊢
 refine sW ?_;refine qk mixm (α:=Nat×List Int) [23] (fun y=>y.1≤L.length∧y.2.length=s.cols.length∧(∀ x∈y.2,0≤x)∧canF (lvF y.2) s.cols.length=(L.take y.1).foldl (qG0 s) []) (fun y=>[(23,vI y.1)]) (fun y=>[(4096,.arr 2 [schT s] false),(16396,.arr 1 (y.2.map vI) false)]) (fun y=>L.length-y.1) (0,List.replicate s.cols.length 0) ⟨sMp,sMp,fun x hx=>by rw[(List.mem_replicate.1 hx).2];omega,jD1 _⟩ ?_ fun y hy=>?_
 ·rw[List.map_replicate];refine .of [(4096,some 4096),(16396,some 16396)] [] rfl (by first | rfl | (rw[hst];rfl)) ?_ ?_
  all_goals (try simp only[tL,simprocAttr,By,List.map_cons,List.map_nil,BW,Cy,Ax,jK0])
  all_goals (try (repeat' (first | exact qZ | (apply zk;intro _;exact⟨rfl,rfl⟩) | (apply qA;intro _;exact⟨rfl,rfl⟩) | with_reducible apply qW | with_reducible refine qQ ⟨rfl,rfl⟩ ?_ | exact qY | with_reducible apply qR | with_reducible refine qX ⟨rfl,rfl,?_⟩ ?_ | with_reducible apply Az | exact qS rfl | exact qS (by assumption) | (refine⟨⟨?_,rfl,?_,rfl,?_⟩,trivial⟩ <;> first | (simp;done) | (apply qA;intro _;exact⟨rfl,rfl⟩)) | trivial | rfl | (rw[qh oM]) | omega)))
 obtain⟨i,lv⟩:=y;obtain⟨y1,y2,y3,y4⟩:=hy;dsimp only at y1 y2 y3 y4;refine sD ?_;refine⟨fun h3=>?_,fun h3=>?_⟩
 ·have hi2:i<L.length:=by omega
  have hwi:=qh (i:=i) oM;obtain⟨hnd,ha⟩:=hao _ (AX hi2);obtain⟨n1,n2,n3⟩:=qQ9 hE hnd ha;have h59:=qx2 (c:=L[i].col) hE;obtain⟨_,c1,c2,_⟩:=wW (s:=s) (c:=L[i].col) oM;have hstep:(L.take (i+1)).foldl (qG0 s) []=QK ((L.take i).foldl (qG0 s) []) L[i].col (decN s L[i]):=by
   rw[qH hi2,Gx];rfl
  simp only[tZ,↓un_u,simprocAttr,Ax,qd hi2,zh];refine⟨oM,?_⟩;generalize L[i]=a at hnd ha n1 n2 n3 h59 c1 c2 hstep ⊢
  refine qk mixm (α:=Nat) [8] (fun n=>n≤decN s a) (fun n=>[(8,vI n)]) (fun n=>[(4096,.arr 2 [schT s] false),(16396,.arr 1 (lv.map vI) false),(28680,.arr 6 [cnT a] false)]) (fun n=>decN s a-n) 0 oM ?_ fun n hn=>?_
  ·exact .oA [(4096,some 4096),(16396,some 16396),(28680,some 28680)] []
  have hwn:=qh (i:=n) oM;refine sW ?_;refine C1.im (qc6 s hE a hnd ha n oM) rF rF ?_;simp only[tZ,↓un_u,simprocAttr,Bx,Bz,hwn];refine⟨fun h4=>?_,fun h4=>?_⟩
  ·have:n≠decN s a:=fun e=>by rw[e,n2] at h4;cases h4
   refine⟨n+1,oM,oM,?_⟩;exact .oA [(4096,some 4096),(16396,some 16396),(28680,some 28680)] []
  ·have:n=decN s a:=by
    refine Nat.le_antisymm hn (Nat.le_of_not_lt fun e=>?_);rw[n3 n e] at h4;cases h4
   subst this;obtain⟨q,hq⟩:=AJ (show 0≤a.col by omega);have hq2:q<lv.length:=by omega
   simp only[tZ,↓un_u,simprocAttr,hq,Ax,qd hq2,zD8,hwi,show ∀ a b:Int,repl (vI a) 0 (vI b)=vI b from fun _ _=>rfl]
   repeat (first | refine⟨oM,?_⟩ | refine⟨kR,?_⟩)
   refine⟨(i+1,lv.set q (max lv[q] (decN s a))),⟨by dsimp only;omega,by rw[Fw];exact y2,fun x hx=>?_,?_⟩,by dsimp only;omega,?_⟩
   ·rcases List.mem_or_eq_of_mem_set hx with h5 | h5
    ·exact y3 x h5
    ·rw[h5];omega
   ·dsimp only;rw[hstep,← y4,hq,zg2 (jP4 y3) oM,jP3 hq2]
   ·rw[← List.map_set];exact .oA [(4096,some 4096),(16396,some 16396)] []
 ·have hil:i=L.length:=by omega
  subst hil;rw[Bw] at y4;rw[← y4];simp only[Ax];refine⟨y2,?_⟩;rw[← y2];refine qk mixm (α:=Nat) [48,9] (fun i=>i≤lv.length) (fun i=>[(9,.asl 1 (canF (lvF lv) i).length),(48,vI i)]) (fun i=>[(16396,.arr 1 (lv.map vI) false),(1,.arr 2 ((canF (lvF lv) i).map pkT) false)]) (fun i=>lv.length-i) 0 oM ?_ fun j hj=>?_
  ·exact .oA [(16396,some 16396),(1,none)] []
  have hcl:=zq0 (lvF lv) j;refine sD ?_;refine⟨fun h5=>?_,fun h5=>?_⟩
  ·have hj2:j<lv.length:=by omega
   have hwj:=qh (i:=j) oM;have hg:lvF lv j=lv[j]:=qg hj2;have hc:canF (lvF lv) (j+1)=canF (lvF lv) j++(if 0<lv[j] then [⟨(j:Nat),lv[j]⟩] else []):=by rw[canF,hg]
   simp only[tZ,↓un_u,simprocAttr,Ax,qd hj2,hwj,gt_iff_lt,tD];refine⟨oM,oM,fun h6=>?_,fun h6=>?_⟩
   ·rw[Aj h6] at hc;refine⟨oM,j+1,oM,oM,?_⟩;rw[hc,By,AW];exact .oA [(16396,some 16396),(1,some 1)] []
   ·rw[Aq h6,CW] at hc;refine⟨j+1,oM,oM,?_⟩;rw[hc];exact .oA [(16396,some 16396),(1,some 1)] []
  ·rw[show lv.length=j by omega];exact .oA [] [1]
theorem WC (p n:Pk):Spc Tryz.prog 131 [pkT p,.ip (pkT n).cells] [] (vB ((p.col==n.col)&&decide (p.lev≥n.lev))) []:=by
 refine sIr KN fun e _ hst=>?_;unfold ju;refine sW ?_;exact .oA [] []
theorem ya (p:Pk→Bool) (f:FuncId) (caps:List T) (hcap:imL caps=true) (l:List Pk) (hf:∀ y∈l,Spc Tryz.prog f (pkT y::caps) [] (vB (p y)) []) (hl:l.length<4611686018427387904) :
 Spc Tryz.prog 70 [.sl 2 (l.map pkT),.clo f caps] [] (vI (idxI p l)) []:=by
 refine sIr JZ fun e _ hst=>?_;unfold jk;refine sW ?_;refine qk mixm (α:=Nat) [8] (fun i=>i≤l.length∧((l.take i).any p=false)) (fun i=>[(8,vI i)]) (fun i=>[]) (fun i=>l.length-i) 0 ⟨oM,?_⟩ ?_ fun i hi=>?_
 ·simp
 ·exact .oA [] []
 simp only[tZ,↓un_u,simprocAttr,AZ,Ay];refine⟨fun h=>?_,fun h=>?_⟩
 ·have hi2:i<l.length:=by omega
  have hwi:=qh (i:=i) oM;simp only[tZ,↓un_u,simprocAttr,Ax,qd hi2,hwi,qe6];refine⟨oM,?_⟩;refine C1.im (hf l[i] (AX hi2)) (JW rfl hcap) rfl ?_;refine sW ?_;refine⟨fun h3=>?_,fun h3=>⟨i+1,⟨oM,jr hi2 hi.2 h3⟩,oM,?_⟩⟩
  ·rw[idxI,Aj (zf0 hi2 h3),wm hi2 hi.2 h3];exact .imR rfl rfl
  ·exact .oA [] []
 ·have h2:i=l.length:=by omega
  have h3:=hi.2;rw[h2,Bw] at h3;rw[idxI,Aq (by rw[h3];simp)];exact .imR rfl rfl
theorem zW (p:Pk→Bool) (f:FuncId) (caps:List T) (hcap:imL caps=true) (l:List Pk) (hf:∀ y∈l,Spc Tryz.prog f (pkT y::caps) [] (vB (p y)) []) (hl:l.length<4611686018427387904) :
 Spc Tryz.prog 129 [.sl 2 (l.map pkT),.clo f caps] [] (vB (l.any p)) []:=by
 refine sIr Zh fun e _ hst=>?_;unfold zP;refine sW ?_;refine C1.im (ya p f caps hcap l hf hl) (yL rfl hcap) rfl ?_;refine sW ?_;rw[show decide (idxI p l≥0)=l.any p from qL6 p l];exact .imR rfl rfl
theorem qc7 (n:Pk) (a:List Pk) (ha:a.length<4611686018427387904):Spc Tryz.prog 130 [pkT n,.ip [vPs a]] [] (vB (!(a.any fun y=>(y.col==n.col)&&decide (y.lev≥n.lev)))) []:=by
 refine sIr Ya fun e _ hst=>?_;unfold jQ;refine sW ?_;have hCF:=zW (fun y=>(y.col==n.col)&&decide (y.lev≥n.lev)) 131 [.ip (pkT n).cells] rfl a (fun y _=>WC y n) ha;refine C1.lend [4096] hCF ?_ rF rF ?_
 ·all_goals (try simp only[tL,simprocAttr,By,List.map_cons,List.map_nil,BW,Cy])
  all_goals (try (repeat' (first | exact qZ | (apply zk;intro _;exact⟨rfl,rfl⟩) | (apply qA;intro _;exact⟨rfl,rfl⟩) | with_reducible apply qW | with_reducible refine qQ ⟨rfl,rfl⟩ ?_ | exact qY | with_reducible apply qR | with_reducible refine qX ⟨rfl,rfl,?_⟩ ?_ | with_reducible apply Az | exact qS rfl | exact qS (by assumption) | (refine⟨⟨?_,rfl,?_,rfl,?_⟩,trivial⟩ <;> first | (simp;done) | (apply qA;intro _;exact⟨rfl,rfl⟩)) | trivial | rfl | (rw[qh oM]) | omega)))
  simp only[ltP];exact⟨rfl,by decide,rfl,qQ ⟨rfl,rfl⟩ qY⟩
 refine sW ?_;exact .oA [] []
theorem qs4 (a b:List Pk) (ha:a.length<4611686018427387904) (hb:b.length<4611686018427387904):Spc Tryz.prog 67 [vPs a,vPs b] [] (vB (covB b a)) []:=by
 refine sIr qf7 fun e _ hst=>?_;unfold kT;refine sW ?_;have hCF:=zW (fun n=>!(a.any fun y=>(y.col==n.col)&&decide (y.lev≥n.lev))) 130 [.ip [vPs a]] rfl b (fun n _=>qc7 n a ha) hb;refine C1.lend [4096] hCF ?_ rF rF ?_
 ·all_goals (try simp only[tL,simprocAttr,By,List.map_cons,List.map_nil,BW,Cy])
  all_goals (try (repeat' (first | exact qZ | (apply zk;intro _;exact⟨rfl,rfl⟩) | (apply qA;intro _;exact⟨rfl,rfl⟩) | with_reducible apply qW | with_reducible refine qQ ⟨rfl,rfl⟩ ?_ | exact qY | with_reducible apply qR | with_reducible refine qX ⟨rfl,rfl,?_⟩ ?_ | with_reducible apply Az | exact qS rfl | exact qS (by assumption) | (refine⟨⟨?_,rfl,?_,rfl,?_⟩,trivial⟩ <;> first | (simp;done) | (apply qA;intro _;exact⟨rfl,rfl⟩)) | trivial | rfl | (rw[qh oM]) | omega)))
  simp only[ltP];exact⟨rfl,by decide,rfl,qQ ⟨rfl,rfl⟩ qY⟩
 refine sW ?_;rw[show (!(b.any fun n=>!(a.any fun y=>(y.col==n.col)&&decide (y.lev≥n.lev))))=covB b a by rw[covB,List.not_any_eq_all_not];simp];exact .oA [] []
end Go.Proofs
namespace Go.Proofs
open Go Go.TL
set_option maxRecDepth 4000
set_option maxHeartbeats 8000000
def kiI (s:Sch) (c:Int):Int:=if c<0∨c≥s.cols.length then 0 else (qj s c.toNat).kind
theorem jK3 {s:Sch} {c k:Int} (hk:k≠0):(kiI s c==k)=isB s c k:=by
 rw[Bool.eq_iff_iff,AY,zl,kiI];split
 ·constructor
  ·intro h;omega
  ·intro h;omega
 ·constructor
  ·intro h;exact⟨oM,oM,h⟩
  ·intro h;exact h.2.2
theorem zE2 {s:Sch} {c k:Int} (hk:k≠0):isB s c k=false↔kiI s c≠k:=by rw[← jK3 hk,Ak]
theorem jP5 {s:Sch} {c k:Int} (hk:k≠0):isB s c k=true↔kiI s c=k:=by rw[← jK3 hk,AY]
theorem zD (s:Sch) (c:Int):Spc Tryz.prog 243 [schT s,vI c] [] (vI (kiI s c)) []:=by
 refine sIr Yn fun e _ hst=>?_;unfold jV;refine sD ?_;refine⟨fun h=>?_,fun h=>?_⟩
 ·rw[kiI,Aj oM];exact .oA [] []
 obtain⟨i,rfl⟩:=AJ (show 0≤c by omega);have hi:i<s.cols.length:=by omega
 rw[kiI,Aq oM,Ax,qj,qg hi];simp only[tZ,↓un_u,simprocAttr,Ax,qd hi];refine⟨oM,?_⟩;exact .oA [] []
theorem empC (c:Cnd):((c.op==0)&&(c.col==0)&&(c.code==0)&&(c.lo==0)&&(c.hi==0)&&((c.kids.length:Int)==0))=Kg c cnd0:=by
 rw[zV3];show _=((c.op==0)&&(c.col==0)&&(c.code==0)&&(c.lo==0)&&(c.hi==0)&&wq c.kids [])
 congr 1
 cases c.kids with
 | nil=>rfl
 | cons x r=>
   rw[wq];exact Ak.2 (by simp;omega)
theorem ZD (c:Cnd):Spc Tryz.prog 245 [cnT c] [] (vB (Kg c cnd0)) []:=by
 refine sIr qc0 fun e _ hst=>?_;unfold kF;refine sW ?_;rw[← empC];exact .oA [] []
theorem YA (x y:Pk):Spc Tryz.prog 244 [pkT x,.ip (pkT y).cells] [] (vB (x.col==y.col)) []:=by
 refine sIr Wx fun e _ hst=>?_;unfold jH;refine sW ?_;exact .oA [] []
def tabE (s:Sch) (q:Qst):Int:=if Zv s q.dims≠0 then Zv s q.dims else if q.meas≠-1∧isB s q.meas 3=false then 7 else if 0<q.terms.length∨Kg q.event cnd0=false then 11 else 0
theorem qi6 (s:Sch) (hs:jI s) (q:Qst):Spc Tryz.prog 184 [schT s,qstT q] [] (vI (tabE s q)) []:=by
 have hT:tabE s q=if Zv s q.dims≠0 then Zv s q.dims else if q.meas≠-1∧isB s q.meas 3=false then 7 else if 0<q.terms.length∨Kg q.event cnd0=false then 11 else 0:=rfl
 have hTD:Zv s q.dims≠0→tabE s q=Zv s q.dims:=fun h=>by rw[hT,Aj h]
 refine sIr qb2 fun e _ hst=>?_;unfold kB;refine sD ?_;refine⟨fun h=>?_,fun h=>?_⟩
 ·have:Zv s q.dims=1:=by rw[Zv,Aj oM]
  rw[hTD (by rw[this];simp),this];exact .oA [] []
 have hD:Zv s q.dims=zm (dimE s q.dims) q.dims.length:=by rw[Zv,Aq oM]
 generalize tabE s q=E at hT hTD ⊢
 refine qk mixm (α:=Nat) [21] (fun i=>i≤q.dims.length∧(zm (dimE s q.dims) i=0)) (fun i=>[(21,vI i)]) (fun i=>[(4096,.arr 2 [schT s] false),(4100,.arr 17 [qstT q] false)]) (fun i=>q.dims.length-i) 0 ⟨oM,?_⟩ ?_ fun i hi=>?_
 ·rfl
 ·exact .oA [(4096,some 4096),(4100,some 4100)] []
 simp only[tZ,↓un_u,simprocAttr,AZ,Ay];refine⟨fun h=>?_,fun h=>?_⟩
 ·have hi2:i<q.dims.length:=by omega
  have hpi:pkAt q.dims i=q.dims[i]:=by rw[pkAt,qg hi2]
  have hstep:=jy hi.2 hi2;have hnext:=zC hi.2;have hA:dimE s q.dims i=if kI s q.dims[i]≠0 then kI s q.dims[i] else if isB s q.dims[i].col 2=false then 7 else if ((q.dims.take i).any fun x=>x.col==q.dims[i].col)=true then 10 else 0:=by rw[dimE,hpi]
  rw[← hD] at hstep;have hbad:dimE s q.dims i≠0→E=dimE s q.dims i:=fun h=>by rw[hTD (by rw[hstep h];exact h),hstep h]
  have hi2:i<q.dims.length:=by omega
  have hwi:=qh (i:=i) oM;simp only[tZ,↓un_u,simprocAttr,Ax,qd hi2,hwi];refine⟨oM,?_⟩;refine C1.im (zp6 s hs q.dims[i]) rF rF ?_;simp only[tZ,↓un_u,simprocAttr,Bj,Aw];refine⟨fun h3=>?_,fun h3=>?_⟩
  ·rw[Aj h3] at hA;rw[hbad (by rw[hA];exact h3),hA];exact .oA [] []
  rw[Aq (by rw[h3];simp)] at hA;refine C1.im (zD s q.dims[i].col) rF rF ?_;have hki:=zE2 (s:=s) (c:=q.dims[i].col) (k:=2) (by decide);simp only[tZ,↓un_u,simprocAttr,Bj,Aw];refine⟨fun h4=>?_,fun h4=>?_⟩
  ·rw[Aj (hki.2 h4)] at hA;rw[hbad (by rw[hA];simp),hA];exact .oA [] []
  rw[Aq (fun h=>hki.1 h h4)] at hA;have hCF:=zW (fun x=>x.col==q.dims[i].col) 244 [.ip (pkT q.dims[i]).cells] rfl (q.dims.take i) (fun x _=>YA x q.dims[i]) (by rw[Cz];omega);refine⟨oM,?_⟩;rw[WO,qL5];refine C1.lend [24588] hCF ?_ rF rF ?_
  ·all_goals (try simp only[tL,simprocAttr,By,List.map_cons,List.map_nil,BW,Cy])
   all_goals (try (repeat' (first | exact qZ | (apply zk;intro _;exact⟨rfl,rfl⟩) | (apply qA;intro _;exact⟨rfl,rfl⟩) | with_reducible apply qW | with_reducible refine qQ ⟨rfl,rfl⟩ ?_ | exact qY | with_reducible apply qR | with_reducible refine qX ⟨rfl,rfl,?_⟩ ?_ | with_reducible apply Az | exact qS rfl | exact qS (by assumption) | (refine⟨⟨?_,rfl,?_,rfl,?_⟩,trivial⟩ <;> first | (simp;done) | (apply qA;intro _;exact⟨rfl,rfl⟩)) | trivial | rfl | (rw[qh oM]) | omega)))
   simp only[ltP];exact⟨rfl,by decide,rfl,qQ ⟨rfl,rfl⟩ qY⟩
  simp only[tZ,↓un_u,simprocAttr,hwi];refine⟨fun h5=>?_,fun h5=>?_⟩
  ·rw[Aj h5] at hA;rw[hbad (by rw[hA];simp),hA];exact .oA [] []
  ·rw[Aq (by rw[h5];simp)] at hA;refine⟨i+1,⟨oM,by rw[hnext,hA]⟩,oM,?_⟩;exact .oA [(4096,some 4096),(4100,some 4100)] []
 ·have hi2:i=q.dims.length:=by omega
  subst hi2;rw[← hD] at hi;rw[Aq (by rw[hi.2];simp)] at hT;have hk:=zD s q.meas;refine C2.im (fun _=>hk) (fun _=>rfl) rF ?_;have hki:=zE2 (s:=s) (c:=q.meas) (k:=3) (by decide);simp only[tZ,↓un_u,simprocAttr,tD,Bj,Aw];refine⟨fun h5=>?_,fun h5=>?_⟩
  ·rw[Aj (by grind)] at hT;rw[hT];exact .oA [] []
  rw[Aq (by grind)] at hT;refine C2.im (fun _=>ZD q.event) (fun _=>rfl) rF ?_;simp only[tZ,↓un_u,simprocAttr,tD,gt_iff_lt,Bx,Bz];refine⟨fun h6=>?_,fun h6=>?_⟩
  ·rw[Aj (by grind)] at hT;rw[hT];exact .oA [] []
  ·rw[Aq (by grind)] at hT;rw[hT];exact .oA [] []
def modE (s:Sch) (q:Qst):Int:=if isB s q.meas 3=false then 7 else if kJ s q.meas q.terms≠0 then kJ s q.meas q.terms else if 0<q.dims.length∨Kg q.event cnd0=false then 11 else 0
theorem qi7 (s:Sch) (q:Qst):Spc Tryz.prog 185 [schT s,qstT q] [] (vI (modE s q)) []:=by
 have hT:modE s q=if isB s q.meas 3=false then 7 else if kJ s q.meas q.terms≠0 then kJ s q.meas q.terms else if 0<q.dims.length∨Kg q.event cnd0=false then 11 else 0:=rfl
 generalize modE s q=E at hT ⊢
 have hki:=zE2 (s:=s) (c:=q.meas) (k:=3) (by decide);refine sIr qb4 fun e _ hst=>?_;unfold kC;refine sW ?_;refine C1.im (zD s q.meas) rF rF ?_;simp only[tZ,↓un_u,simprocAttr,tD,Bj,Aw];refine⟨fun h=>?_,fun h=>?_⟩
 ·rw[Aj (hki.2 h)] at hT;rw[hT];exact .oA [] []
 rw[Aq (fun k=>hki.1 k h)] at hT;refine⟨fun h2=>?_,fun h2=>?_⟩
 ·have:kJ s q.meas q.terms=1:=by rw[kJ,Aj oM]
  rw[this,Aj sMp] at hT;rw[hT];exact .oA [] []
 have hD:kJ s q.meas q.terms=zm (qQ2 s q.meas q.terms) q.terms.length:=by rw[kJ,Aq oM]
 have hTD:kJ s q.meas q.terms≠0→E=kJ s q.meas q.terms:=fun h=>by rw[hT,Aj h]
 refine qk mixm (α:=Nat) [27] (fun i=>i≤q.terms.length∧(zm (qQ2 s q.meas q.terms) i=0)) (fun i=>[(27,vI i)]) (fun i=>[(4096,.arr 2 [schT s] false),(4100,.arr 17 [qstT q] false)]) (fun i=>q.terms.length-i) 0 ⟨oM,?_⟩ ?_ fun i hi=>?_
 ·rfl
 ·exact .oA [(4096,some 4096),(4100,some 4100)] []
 simp only[tZ,↓un_u,simprocAttr,AZ,Ay];refine⟨fun h=>?_,fun h=>?_⟩
 ·have hi2:i<q.terms.length:=by omega
  have hpi:q.terms.getD i 0=q.terms[i]:=qg hi2;have hstep:=jy hi.2 hi2;have hnext:=zC hi.2;have hA:qQ2 s q.meas q.terms i=if isB s q.terms[i] 3=false then 7 else if q.terms[i]=q.meas∨(q.terms.take i).contains q.terms[i]=true then 10 else 0:=by rw[qQ2,hpi]
  rw[← hD] at hstep;have hbad:qQ2 s q.meas q.terms i≠0→E=qQ2 s q.meas q.terms i:=fun h=>by rw[hTD (by rw[hstep h];exact h),hstep h]
  have hi2:i<q.terms.length:=by omega
  have hwi:=qh (i:=i) oM;simp only[tZ,↓un_u,simprocAttr,Ax,qd hi2,hwi];refine⟨oM,?_⟩;refine C1.im (zD s q.terms[i]) rF rF ?_;have hki:=zE2 (s:=s) (c:=q.terms[i]) (k:=3) (by decide);simp only[tZ,↓un_u,simprocAttr,Bj,Aw];refine⟨fun h4=>?_,fun h4=>?_⟩
  ·rw[Aj (hki.2 h4)] at hA;rw[hbad (by rw[hA];simp),hA];exact .oA [] []
  rw[Aq (fun h=>hki.1 h h4)] at hA;have hCF:=ke (q.terms.take i) q.terms[i] (by rw[Cz];omega);refine⟨fun _=>by omega,?_⟩;rw[WO,qL5];refine C2.im (fun _=>hCF) (fun _=>rfl) rF ?_;simp only[tZ,↓un_u,simprocAttr,hwi,tD,AY,Ak];refine⟨fun h5=>?_,fun h5=>?_⟩
  ·rw[Aj h5] at hA;rw[hbad (by rw[hA];simp),hA];exact .oA [] []
  ·rw[Aq (by grind)] at hA;refine⟨i+1,⟨oM,by rw[hnext,hA]⟩,oM,?_⟩;exact .oA [(4096,some 4096),(4100,some 4100)] []
 ·have hi2:i=q.terms.length:=by omega
  subst hi2;rw[← hD] at hi;rw[Aq (by rw[hi.2];simp)] at hT;refine C2.im (fun _=>ZD q.event) (fun _=>rfl) rF ?_;simp only[tZ,↓un_u,simprocAttr,tD,gt_iff_lt,Bx,Bz];refine⟨fun h6=>?_,fun h6=>?_⟩
  ·rw[Aj (by grind)] at hT;rw[hT];exact .oA [] []
  ·rw[Aq (by grind)] at hT;rw[hT];exact .oA [] []
def curE (s:Sch) (q:Qst):Int:=if isB s q.meas 3=false then 7 else if (qj s q.meas.toNat).low<0 then 2 else if chkC s q.event≠0 then chkC s q.event else if 0<q.dims.length∨0<q.terms.length then 11 else 0
theorem qi8 (s:Sch) (hs:jI s) (q:Qst):Spc Tryz.prog 186 [schT s,qstT q] [] (vI (curE s q)) []:=by
 have hki:=zE2 (s:=s) (c:=q.meas) (k:=3) (by decide);refine sIr qb6 fun e _ hst=>?_;unfold kD;refine sW ?_;refine C1.im (zD s q.meas) rF rF ?_;simp only[tZ,↓un_u,simprocAttr,tD,Bj,Aw];refine⟨fun h=>?_,fun h=>?_⟩
 ·rw[curE,Aj (hki.2 h)];exact .oA [] []
 rw[curE,Aq (fun k=>hki.1 k h)];obtain⟨b1,b2,b3⟩:=zl.1 ((jP5 (by decide)).2 h);have hil:q.meas.toNat<s.cols.length:=by omega
 rw[qj,qg hil];simp only[tZ,↓un_u,simprocAttr,qd hil,tD];refine⟨oM,fun h4=>?_,fun h4=>?_⟩
 ·rw[Aj h4];exact .oA [] []
 rw[Aq h4];refine C1.im (jq s hs q.event) rF rF ?_;simp only[tZ,↓un_u,simprocAttr,Bj,Aw];refine⟨fun h5=>?_,fun h5=>?_⟩
 ·rw[Aj h5];exact .oA [] []
 rw[Aq (by rw[h5];simp)];simp only[tZ,↓un_u,simprocAttr,tD,gt_iff_lt];refine⟨fun h6=>?_,fun h6=>?_⟩
 ·rw[Aj oM];exact .oA [] []
 ·rw[Aq oM];exact .oA [] []
theorem ye (s:Sch) (hs:jI s) (q:Qst):Spc Tryz.prog 121 [schT s,qstT q] [] (vI (qstE s q)) []:=by
 refine sIr KK fun e _ hst=>?_;unfold jt;refine sW ?_;refine C1.im (zK s hs.2.1 hs.1) rF rF ?_;simp only[tZ,↓un_u,simprocAttr,Bj,Aw];refine⟨fun h=>?_,fun h=>?_⟩
 ·rw[qstE,Aj h];exact .oA [] []
 rw[qstE,Aq (by rw[h];simp)];refine C1.im (ka q.name) rF rF ?_;simp only[tZ,↓un_u,simprocAttr,tD,Bx,Bz];refine⟨fun h2=>?_,fun h2=>?_⟩
 ·rw[Aj h2];exact .oA [] []
 rw[Aq (by rw[h2];simp)];refine⟨fun h3=>?_,fun h3=>?_⟩
 ·rw[Aj oM];exact .oA [] []
 rw[Aq oM];refine C1.im (jq s hs q.filt) rF rF ?_;simp only[tZ,↓un_u,simprocAttr,Bj,Aw,AY,Ak];refine⟨fun h4=>?_,fun h4=>?_⟩
 ·rw[Aj h4];exact .oA [] []
 rw[Aq (by rw[h4];simp)];refine⟨fun h5=>?_,fun h5=>⟨fun h6=>?_,fun h6=>?_⟩⟩
 ·refine C1.im (qi6 s hs q) rF rF ?_;rw[show (if kr s q≠0 then kr s q else if (q.kind≠1∧0<q.dims.length)∨(q.kind≠2∧0<q.terms.length)∨(q.kind≠3∧Kg q.event cnd0=false) then 11 else 0)=tabE s q by
   rw[kr,Aj h5,tabE]
   grind]
  refine sW ?_;exact .oA [] []
 ·refine C1.im (qi7 s q) rF rF ?_;rw[show (if kr s q≠0 then kr s q else if (q.kind≠1∧0<q.dims.length)∨(q.kind≠2∧0<q.terms.length)∨(q.kind≠3∧Kg q.event cnd0=false) then 11 else 0)=modE s q by
   rw[kr,Aq h5,Aj h6,modE]
   grind]
  refine sW ?_;exact .oA [] []
 ·refine C1.im (qi8 s hs q) rF rF ?_;rw[show (if kr s q≠0 then kr s q else if (q.kind≠1∧0<q.dims.length)∨(q.kind≠2∧0<q.terms.length)∨(q.kind≠3∧Kg q.event cnd0=false) then 11 else 0)=curE s q by
   rw[kr,Aq h5,Aq h6,curE]
   grind]
  refine sW ?_;exact .oA [] []
end Go.Proofs
namespace Go.Proofs
open Go Go.TL
set_option maxRecDepth 4000
set_option maxHeartbeats 8000000
def usB (q:Qst) (k:Int):Bool:=decide (k>0)&&ja5 q k
theorem qG7 (q:Qst) (k:Int) (ht:q.terms.length<4611686018427387904):Spc Tryz.prog 135 [qstT q,vI k] [] (vB (usB q k)) []:=by
 refine sIr qv2 fun e _ hst=>?_;unfold yv;refine sW ?_;refine C2.im (fun _=>ke q.terms k ht) (fun _=>rfl) rF ?_;refine sW ?_;rw[show (decide (k>0)&&((q.meas==k)||q.terms.contains k))=usB q k from rfl];exact .oA [] []
def cnsL (q:Qst):List Cnd:=if q.kind=3 then [q.filt,q.event] else [q.filt]
theorem qy7 (q:Qst):Spc Tryz.prog 137 [qstT q] [] (vCs (cnsL q)) []:=by
 refine sIr qm9 fun e _ hst=>?_;unfold wJ;simp only[tZ,↓un_u,simprocAttr,AY,Ak];refine⟨fun h=>?_,fun h=>?_⟩
 ·rw[cnsL,Aj h];show yh [] _ _ (.sl 6 [cndT q.filt,cndT q.event]) [];rw[zh,zh];exact .oA [] [12304]
 ·rw[cnsL,Aq h];show yh [] _ _ (.sl 6 [cndT q.filt]) [];rw[zh];exact .oA [] [16392]
def jX5 (s:Sch) (q:Qst) (k a b:Int):Bool:=(usB q k&&(a != b))||(q.dims.any fun d=>(d.col==k)&&(qU s k d.lev a != qU s k d.lev b))||((cnsL q).any fun c=>(atsC c).any fun x=>(x.col==k)&&(wU s x a != wU s x b))
end Go.Proofs
namespace Go.Proofs
open Go Go.TL
set_option maxRecDepth 4000
set_option maxHeartbeats 8000000
def mxl:List Pk→Int→Int
 | [],_=>0
 | p::r,k=>if p.col=k then max p.lev (mxl r k) else mxl r k
theorem qi9:∀ (l:List Pk) (k:Int),0≤mxl l k
 | [],_=>Int.le_refl _
 | p::r,k=>by
   have:=qi9 r k;rw[mxl];split <;> omega
theorem zq1:∀ (a b:List Pk) (k:Int),mxl (a++b) k=max (mxl a k) (mxl b k)
 | [],b,k=>by
   have:=qi9 b k;rw[Cy,mxl];omega
 | p::r,b,k=>by
   have:=zq1 r b k;rw[BW,mxl,mxl,this];split <;> omega
theorem jD2 (l:List Pk) (p:Pk) (k:Int):mxl (l++[p]) k=if p.col=k then max (mxl l k) p.lev else mxl l k:=by
 have:=qi9 l k;rw[zq1,mxl,mxl];split <;> omega
theorem YX:∀ {l:List Pk} {k:Int},(∀ p∈l,p.col≠k)→mxl l k=0
 | [],_,_=>rfl
 | p::r,k,h=>by
   rw[mxl,Aq (h p sMp),YX fun x hx=>h x (CQ _ hx)]
theorem zW4 {f:Nat→Int} (hf:∀ k,0≤f k):∀ {n:Nat} (k:Nat),mxl (canF f n) k=if k<n then f k else 0
 | 0,k=>by rw[Aq oM];rfl
 | n+1,k=>by
   have ih:=zW4 hf (n:=n) k;have hk:=hf k;have hn:=hf n;rw[canF,zq1,ih];by_cases e:n=k
   ·subst e;rw[Aq (show ¬ n<n by omega),Aj (show n<n+1 by omega)];split
    ·have:mxl [(⟨(n:Nat),f n⟩:Pk)] n=max (f n) 0:=by rw[mxl,Aj rfl];rfl
     rw[this];omega
    ·rw[mxl];omega
   ·have h0:mxl (if 0<f n then [(⟨n,f n⟩:Pk)] else []) k=0:=YX fun p hp=>by
     split at hp
     ·rw[Ey.1 hp];dsimp only;omega
     ·simp at hp
    rw[h0];by_cases h:k<n
    ·rw[Aj h,Aj oM];omega
    ·rw[Aq h,Aq oM];omega
theorem qy8 {n:Nat}:∀ (l:List Pk) {f:Nat→Int},(∀ k,0≤f k)→(∀ p∈l,0≤p.col∧p.col<n)→wu (canF f n) l=canF (fun k=>max (f k) (mxl l k)) n
 | [],f,hf,_=>by
   show canF f n=_;exact Km fun k _=>by have:=hf k;rw[mxl];omega
 | p::r,f,hf,h=>by
   obtain⟨h1,h2⟩:=h p sMp;obtain⟨c,hc⟩:=AJ h1;have e:wu (canF f n) (p::r)=wu (QK (canF f n) p.col p.lev) r:=rfl;rw[e,hc,zg2 hf oM,qy8 r (fun k=>by have:=hf k;unfold upd;split <;> omega) fun x hx=>h x (CQ _ hx)];refine Km fun k _=>?_;have:=hf k;have h3:=qi9 r k;unfold upd;rw[mxl,hc];by_cases e:k=c
   ·subst e;rw[Aj rfl,Aj rfl];omega
   ·rw[Aq e,Aq oM]
theorem jb0 (n:Nat):canF (fun _=>0) n=[]:=qS3 fun _ _=>Int.le_refl _
theorem zE3 {n:Nat} {l:List Pk} (h:∀ p∈l,0≤p.col∧p.col<n):wu [] l=canF (fun k=>mxl l k) n:=by
 rw[← jb0 n,qy8 l (fun _=>Int.le_refl _) h];exact Km fun k _=>by have:=qi9 l k;omega
theorem qs5 (a l m:List Pk):wu a (l++m)=wu (wu a l) m:=Gx
theorem zE4 {α:Type} (f:α→Pk) (m:List α):∀ l,wu l (m.map f)=m.foldl (fun l x=>QK l (f x).col (f x).lev) l:=by
 induction m with
 | nil=>intro l;rfl
 | cons x r ih=>intro l;exact ih _
def atP (s:Sch) (c:Cnd):List Pk:=(atsC c).map fun a=>⟨a.col,decN s a⟩
theorem zK4 {s:Sch} {c:Cnd} (h:chkC s c=0):zR s c=wu [] (atP s c):=by
 rw[zR,Aq (by rw[h];simp),atP,zE4]
theorem qy9 {s:Sch} {c:Cnd} (h:chkC s c=0):zR s c=canF (fun k=>mxl (atP s c) k) s.cols.length∧∀ p∈atP s c,1≤p.col∧p.col<s.cols.length:=by
 obtain⟨hE,k2,k3,k4⟩:=qx6 h;have hb:∀ p∈atP s c,1≤p.col∧p.col<s.cols.length:=fun p hp=>by
  obtain⟨a,ha,rfl⟩:=Cj.1 hp;obtain⟨hnd,hia⟩:=jr0 c k4 a ha;obtain⟨n1,n2,n3⟩:=qQ9 hE hnd hia;obtain⟨_,c1,c2,_⟩:=wW (s:=s) (c:=a.col) oM;exact⟨c1,c2⟩
 refine⟨?_,hb⟩;rw[zK4 h];exact zE3 fun p hp=>by have:=hb p hp;omega
theorem jD3 {s:Sch} {c:Cnd} (h:chkC s c=0):∀ p∈zR s c,1≤p.col∧p.col<s.cols.length:=fun p hp=>by
 obtain⟨h1,h2⟩:=qy9 h;rw[h1,YW] at hp;obtain⟨k,k1,k2,rfl⟩:=hp;refine⟨?_,by dsimp only;omega⟩;dsimp only;by_cases e:k=0
 ·subst e;rw[YX fun q hq=>by have:=h2 q hq;omega] at k2;omega
 ·omega
theorem jt3 {s:Sch} {c:Cnd} (h:chkC s c=0) (k:Nat):mxl (zR s c) k=mxl (atP s c) k:=by
 obtain⟨h1,h2⟩:=qy9 h;rw[h1,zW4 fun k=>qi9 _ _];split
 ·rfl
 ·exact (YX fun q hq=>by have:=h2 q hq;omega).symm
def dmP (s:Sch) (q:Qst):List Pk:=q.dims.map fun d=>⟨d.col,jX s d.col d.lev⟩
def usP (s:Sch) (q:Qst) (n:Nat):List Pk:=((List.range n).filter fun k:Nat=>usB q k).map fun k:Nat=>⟨k,jX s k (finI s k)⟩
theorem zq2 (s:Sch) (q:Qst) (n:Nat):usP s q (n+1)=usP s q n++if usB q n=true then [⟨n,jX s n (finI s n)⟩] else []:=by
 rw[usP,List.range_succ,FY,By,← usP]
 congr 1
 by_cases h:usB q n=true
 ·rw[Aj h,List.filter_cons_of_pos (p:=fun k:Nat=>usB q k) h];rfl
 ·rw[Aq h,List.filter_cons_of_neg (p:=fun k:Nat=>usB q k) h];rfl
theorem zW5 (s:Sch) (q:Qst) (l:List Pk):∀ n:Nat,(List.range n).foldl (wV s q) l=wu l (usP s q (n+1))
 | 0=>by
   show l=_;have h0:usB q (0:Nat)=false:=by simp [usB]
   rw[zq2,h0,Aq sMp];rfl
 | n+1=>by
   rw[List.range_succ,Gx,zW5 s q l n,zq2 _ _ (n+1),qs5];show wV s q _ n=_;have h:usB q ((n+1:Nat):Int)=ja5 q ((n:Int)+1):=by
    unfold usB;rw[Cx oM,Fq];rfl
   rw[wV,h];split <;> rfl
def evP (s:Sch) (q:Qst):List Pk:=if q.kind=3 then zR s q.event else []
theorem zK5 {s:Sch} {q:Qst} (h:qstE s q=0):kK s q=wu (zR s q.filt) (evP s q++dmP s q++usP s q s.cols.length):=by
 have hq:=qx8 h;have hnc:=(qV hq.sch).nc;rw[kK,Aq (by rw[h];simp),jO2,zW5,show s.cols.length-1+1=s.cols.length by omega,qs5,qs5,dmP,zE4,evP]
 congr 2
 split <;> rfl
end Go.Proofs
namespace Go.Proofs
open Go Go.TL
set_option maxRecDepth 4000
set_option maxHeartbeats 8000000
end Go.Proofs
