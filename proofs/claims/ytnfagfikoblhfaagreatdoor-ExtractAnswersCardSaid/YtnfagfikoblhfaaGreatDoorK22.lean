/- A part of the proof: trees of Go values, short forms, contracts. -/
import Derived.WalkKit
import Derived.Still
import Derived.MapKept
import GoSem.Builtin.Cap
import Derived.Laws.Externs
import GoSem.Extern.SlicesOverlaps
import Derived.Carry
import Derived.ProofKit
import Derived.OpenShut
import Derived.HandedShaped
import Derived.Lay
import Derived.LaidLaws
import Derived.MakeChecks
import Derived.SevenTiedAt
import Derived.Test.YtnfagfikoblhfaaGreatDoorChecked
import Derived.Test.YtnfagfikoblhfaaGreatDoorK21
set_option linter.unusedSimpArgs false
set_option linter.unusedVariables false
namespace Go.Proofs
open Go Go.TL
set_option maxRecDepth 4000
set_option maxHeartbeats 8000000
theorem qN8:∀ (c:Cnd) (m:Int),0≤m→m≤1000→Spc Tryz.prog wL [cnT c,vI m] [] (vI (cntC c (m+1))) []:=by
 refine Cnd.ind' fun c ih m hm hm2=>?_;rw[YI];refine qd qD7 mixm (by simp) fun e _ hst=>qh ?_;unfold QS;refine sW ?_;refine qw mixm (α:=Nat×Int) [5,11] (fun y=>y.1≤c.kids.length∧wA c.kids (m+1) 1=wA (c.kids.drop y.1) (m+1) y.2∧y.2≤m+1∧y.1+1≤y.2) (fun y=>[(5,vI y.2),(11,vI y.1)]) (fun y=>[]) (fun y=>c.kids.length-y.1) (0,1) ⟨by simp,rfl,by dsimp only;omega,by simp⟩ ?_ fun y hy=>?_
 ·exact .oA [] []
 obtain⟨i,n⟩:=y;obtain⟨y1,y2,y3,y4⟩:=hy;dsimp only at y1 y2 y3 y4;rw[y2];refine sD ?_;refine⟨fun h=>?_,fun h=>?_⟩
 ·have hi:i<c.kids.length:=by omega
  have hwi:=qk (i:=i) (by omega);rw[zA9 hi,wA];simp only[tZ,↓un_u,simprocAttr,Ax,qe hi,zw,tD];refine⟨by omega,fun h2=>?_,fun h2=>?_⟩
  ·rw[Aq (by omega)];exact .oA [] []
  have hw:IntKind.i64.wrap (m-n)=m-n:=AK _ (by omega);have hc:=qQ7 c.kids[i] (m-n+1) (by omega);have e1:m+1-n=m-n+1:=by omega
  have hw2:IntKind.i64.wrap (n+cntC c.kids[i] (m-n+1))=n+cntC c.kids[i] (m-n+1):=AK _ (by omega);rw[Aj (by omega),e1];simp only[tZ,↓un_u,simprocAttr,hw];refine C1.im (ih _ (AX hi) (m-n) (by omega) (by omega)) (by rfl) (by rfl) ?_;simp only[tZ,↓un_u,simprocAttr,hw2,hwi];refine⟨(i+1,n+cntC c.kids[i] (m-n+1)),⟨by dsimp only;omega,rfl,by dsimp only;omega,by dsimp only;omega⟩,by dsimp only;omega,?_⟩;exact .oA [] []
 ·rw[List.drop_of_length_le (by omega),wA];exact .oA [] []
theorem qV7:∀ (c:Cnd) (m:Int),1≤m→m≤1000→cntC c m<m→Spc Tryz.prog yA [cnT c] [] (vI (depC c)) []:=by
 refine Cnd.ind' fun c ih m hm hm2 hc=>?_;have hd:=jD9 c m hm hc;rw[YI] at hc hd;obtain⟨hk1,hk2⟩:=qF8 (by omega) hc;rw[qM7] at hd ⊢
 refine qd qL6 mixm (by simp) fun e _ hst=>qh ?_;unfold ZL;refine sW ?_;refine qw mixm (α:=Nat) [3,9] (fun i=>i≤c.kids.length) (fun i=>[(3,vI (kG (c.kids.take i))),(9,vI i)]) (fun i=>[]) (fun i=>c.kids.length-i) 0 (by omega) ?_ fun i hi=>?_
 ·refine .of [] [] rfl (by first | rfl | (rw[hst];rfl)) ?_ ?_
  all_goals (try simp only[tL,simprocAttr,By,List.map_cons,List.map_nil,BW,Cy,List.take_zero,kG])
  all_goals (try (repeat' (first | exact ze | (apply zB;intro _;exact⟨rfl,rfl⟩) | (apply qH;intro _;exact⟨rfl,rfl⟩) | with_reducible apply qX | with_reducible refine qT ⟨rfl,rfl⟩ ?_ | exact qY | with_reducible apply qU | with_reducible refine qW ⟨rfl,rfl,?_⟩ ?_ | with_reducible apply Az | exact qV rfl | exact qV (by assumption) | (refine⟨⟨?_,rfl,?_,rfl,?_⟩,trivial⟩ <;> first | (simp;done) | (apply qH;intro _;exact⟨rfl,rfl⟩)) | trivial | rfl | (rw[qk (by omega)]) | omega)))
 have hdt:=qN1 c.kids i;refine sD ?_;refine⟨fun h=>?_,fun h=>?_⟩
 ·have hi2:i<c.kids.length:=by omega
  have hwi:=qk (i:=i) (by omega);have hs:kG (c.kids.take (i+1))=max (kG (c.kids.take i)) (depC c.kids[i]):=by rw[qM hi2,qN0]
  obtain⟨m',a1,a2,a3⟩:=hk2 _ (AX hi2);simp only[tZ,↓un_u,simprocAttr,Ax,qe hi2,zw];refine⟨by omega,?_⟩;refine C1.im (ih _ (AX hi2) m' a1 (by omega) a3) (by rfl) (by rfl) ?_;have hmx:maxI (kG (c.kids.take i):Int) (depC c.kids[i])=(kG (c.kids.take (i+1)):Int):=by rw[hs];unfold maxI;omega
  simp only[tZ,↓un_u,simprocAttr,hwi,hmx];refine⟨i+1,by omega,by omega,?_⟩;exact .oA [] []
 ·have hil:i=c.kids.length:=by omega
  subst hil;rw[Bw] at hdt ⊢
  have hw:=qk (i:=kG c.kids) (by omega);simp only[tZ,↓un_u,simprocAttr,hw];exact .oA [] []
theorem qV8 (op:Int):Spc Tryz.prog Jv [vI op] [] (vI (arC op)) []:=by
 refine qd qM4 mixm (by simp) fun e _ hst=>qh ?_;unfold ZR;simp only[tZ,↓un_u,simprocAttr,Cnd.op,Cnd.col,Cnd.code,Cnd.lo,Cnd.hi,Cnd.kids];by_cases h5:op=5
 ·subst h5;refine sW ?_;exact .oA [] []
 by_cases h6:op=6
 ·subst h6;refine sW ?_;exact .oA [] []
 by_cases h7:op=7
 ·subst h7;refine sW ?_;exact .oA [] []
 have e:arC op=0:=by rw[arC,Aq (by omega),Aq h7]
 rw[e];simp only[tZ,↓un_u,simprocAttr,Ak.2 h5,Ak.2 h6,Ak.2 h7];exact .oA [] []
def unuC (c:Cnd):Bool:=if ((!isAt c&&(c.col != 0))||((c.op != 2)&&(c.code != 0)))=true then false else (c.op==3)||((c.lo==0)&&(c.hi==0))
theorem kc3 {c:Cnd}:unuC c=false↔(c.op≠2∧c.op≠3∧c.op≠4∧c.col≠0)∨(c.op≠2∧c.code≠0)∨(c.op≠3∧(c.lo≠0∨c.hi≠0)):=by
 unfold unuC isAt
 grind
theorem qI0 (c:Cnd):Spc Tryz.prog QG [cnT c] [] (vB (unuC c)) []:=by
 refine qd qy1 mixm (by simp) fun e _ hst=>qh ?_;unfold yW;refine sW ?_;have hi:isAt c=((c.op==2)||(c.op==3)||(c.op==4)):=rfl;rw[← hi];unfold unuC;cases h:(!isAt c&&(c.col != 0))
 ·simp only[tZ,↓un_u,simprocAttr,h];cases h2:((c.op != 2)&&(c.code != 0))
  ·simp only[tZ,↓un_u,simprocAttr,h2];exact .oA [] []
  ·simp only[tZ,↓un_u,simprocAttr,h2];exact .oA [] []
 ·simp only[tZ,↓un_u,simprocAttr,h];exact .oA [] []
theorem qt1 (s:Sch) (hok:SchOk s) (c:Cnd):Spc Tryz.prog ya [schT s,cnT c] [] (vI (ndE s c)) []:=by
 have hn0:=hok.nl;have hn1:=hok.nc;have hn:ndE s c=if c.op<1∨7<c.op then 4
 else if c.kids.length≠arC c.op∨(c.op≠2∧c.op≠3∧c.op≠4∧c.col≠0)∨(c.op≠2∧c.code≠0)∨(c.op≠3∧(c.lo≠0∨c.hi≠0)) then 11
 else if (c.op=2∧isB s c.col 2=false)∨(c.op=3∧isB s c.col 3=false)∨(c.op=4∧(isB s c.col 3=false∨(qj s c.col.toNat).opt=false)) then 7
 else if c.op=2∧(c.code<0∨c.code≥(qK s c.col.toNat).codes.length) then 6
 else if c.op=3∧(c.lo < -1000000∨c.hi>1000000∨c.lo>c.hi) then 2 else 0:=rfl
 have hu:=@kc3 c;generalize ndE s c=E at hn ⊢
 refine qd qm7 mixm (by simp) fun e _ hst=>qh ?_;unfold wy;refine sD ?_;refine⟨fun h=>?_,fun h=>?_⟩
 ·rw[Aj (by omega)] at hn;rw[hn];exact .oA [] []
 rw[Aq (by omega)] at hn;refine C1.im (qV8 c.op) (by rfl) (by rfl) ?_;refine sW ?_;refine C2.im (fun _=>qI0 c) (fun _=>rfl) (by rfl) ?_;simp only[tZ,↓un_u,simprocAttr,Bj,Aw,Bx,Bz]
 repeat (first | refine⟨by omega,?_⟩ | refine⟨by kernel_rfl,?_⟩)
 refine⟨fun h2=>?_,fun h2=>?_⟩
 ·rw[Aj (by grind)] at hn;rw[hn];exact .oA [] []
 rw[Aq (by grind)] at hn;by_cases hat:c.op≠2∧c.op≠3∧c.op≠4
 ·rw[Aq (by omega),Aq (by omega),Aq (by omega)] at hn;rw[hn];simp only[tZ,↓un_u,simprocAttr,Bj.2 hat.1,Bj.2 hat.2.1,Bj.2 hat.2.2];exact .oA [] []
 have e1:((c.op != 2)&&(c.op != 3)&&(c.op != 4))=false:=by
  cases e:((c.op != 2)&&(c.op != 3)&&(c.op != 4)) with
  | false=>rfl
  | true=>exact absurd (by simpa [and_assoc] using e) hat
 simp only[tZ,↓un_u,simprocAttr,e1,tD];refine⟨fun h3=>?_,fun h3=>?_⟩
 ·have b2:isB s c.col 2=false:=by
   cases e:isB s c.col 2 with
   | false=>rfl
   | true=>have:=zH.1 e;omega
  have b3:isB s c.col 3=false:=by
   cases e:isB s c.col 3 with
   | false=>rfl
   | true=>have:=zH.1 e;omega
  rw[b2,b3,Aj (by grind)] at hn;rw[hn];exact .oA [] []
 obtain⟨i,hci⟩:=AJ (show 0≤c.col by omega);have hil:i<s.cols.length:=by omega
 have hat2:qj s i=s.cols[i]:=by rw[qj,qg hil]
 have hcd:=fun e=>hok.cdl hil e;have hcd2:=(qZ (hok.cs i hil)).2.2.2.1;have hcl:qK s i=s.lists.getD s.cols[i].list.toNat default:=by rw[qK,hat2]
 have hB:∀ k,isB s c.col k=(s.cols[i].kind==k):=fun k=>by
  rw[isB,hci,Ax,hat2,Cx (by omega),Cx (by omega)];rfl
 rw[hB,hB,hci,Ax,hcl,hat2] at hn;rw[hat2,hcl] at hcd;rw[hat2] at hcd2;simp only[tZ,↓un_u,simprocAttr,hci,Ax,qe hil];generalize s.cols[i]=x at hn hcd hcd2 ⊢
 simp only[tZ,↓un_u,simprocAttr,AY,Ak,Bj,Aw];refine⟨by omega,fun h4=>⟨fun h5=>?_,fun h5=>?_⟩,fun h4=>⟨fun h5=>⟨fun h6=>?_,fun h6=>?_⟩,fun h5=>?_⟩⟩
 ·rw[Aj (by grind)] at hn;rw[hn];exact .oA [] []
 ·rw[Aq (by grind)] at hn;obtain⟨d1,d2⟩:=hcd h5;obtain⟨d3,d4⟩:=hcd2 h5;rw[qg d1] at hn;simp only[tZ,↓un_u,simprocAttr,qe d1,tD];generalize s.lists[x.list.toNat]=l at hn
  repeat (first | refine⟨by omega,?_⟩ | refine⟨by kernel_rfl,?_⟩)
  refine⟨fun h6=>?_,fun h6=>?_⟩
  ·rw[Aj (by grind)] at hn;rw[hn];exact .oA [] []
  ·rw[Aq (by grind),Aq (by grind)] at hn;rw[hn];exact .oA [] []
 ·rw[Aj (by grind)] at hn;rw[hn];exact .oA [] []
 ·rw[Aq (by grind),Aq (by grind)] at hn;refine sD ?_;refine⟨fun h7=>?_,fun h7=>?_⟩
  ·rw[Aj (by grind)] at hn;rw[hn];exact .oA [] []
  ·rw[Aq (by grind)] at hn;rw[hn];exact .oA [] []
 ·refine⟨fun h6=>?_,fun h6=>by omega⟩;refine⟨fun h7=>?_,fun h7=>?_⟩
  ·rw[Aj (by grind)] at hn;rw[hn];exact .oA [] []
  ·rw[Aq (by grind),Aq (by grind),Aq (by grind)] at hn;rw[hn];exact .oA [] []
theorem kj6 (op:Int):arC op≤2:=by
 unfold arC;split
 ·omega
 ·split <;> omega
theorem qt2 (s:Sch) (hok:SchOk s):∀ (c:Cnd),Spc Tryz.prog jR [schT s,cnT c] [] (vI (nodE s c)) []:=by
 refine Cnd.ind' fun c ih=>?_;have hN:=zA4 s c;generalize nodE s c=N at hN ⊢
 refine qd ql9 mixm (by simp) fun e _ hst=>qh ?_;unfold wv;refine sW ?_;refine C1.im (qt1 s hok c) (by rfl) (by rfl) ?_;simp only[tZ,↓un_u,simprocAttr,Bj,Aw];refine⟨fun h=>?_,fun h=>?_⟩
 ·rw[hN,Aj h];exact .oA [] []
 rw[Aq (by rw[h];simp)] at hN;have hnk:=(jD8 h).nk;have har:=kj6 c.op;rw[hN];refine qw mixm (α:=Nat) [18] (fun i=>i≤c.kids.length∧(Zk s (c.kids.take i)=0)) (fun i=>[(18,vI i)]) (fun i=>[(4096,.arr 2 [schT s] false)]) (fun i=>c.kids.length-i) 0 ⟨by omega,?_⟩ ?_ fun i hi=>?_
 ·rfl
 ·exact .oA [(4096,some 4096)] []
 simp only[tZ,↓un_u,simprocAttr,AZ,Ay];refine⟨fun h=>?_,fun h=>?_⟩
 ·have hi2:i<c.kids.length:=by omega
  have hi2:i<c.kids.length:=by omega
  have hwi:=qk (i:=i) (by omega);simp only[tZ,↓un_u,simprocAttr,Ax,qe hi2,hwi,zw];refine⟨by omega,?_⟩;refine C1.im (ih _ (AX hi2)) (by rfl) (by rfl) ?_;simp only[tZ,↓un_u,simprocAttr,Bj,Aw];refine⟨fun h6=>?_,fun h6=>?_⟩
  ·rw[qy6 hi2 hi.2 h6];exact .oA [] []
  ·refine⟨i+1,⟨by omega,by rw[qM hi2];exact qN2 hi.2 h6⟩,by omega,?_⟩;exact .oA [(4096,some 4096)] []
 ·have hi2:i=c.kids.length:=by omega
  subst hi2;rw[List.take_of_length_le (by omega)] at hi;rw[hi.2];exact .oA [] []
theorem ke (s:Sch) (hs:yX s) (c:Cnd):Spc Tryz.prog zD [schT s,cnT c] [] (vI (chkC s c)) []:=by
 refine qd qC5 mixm (by simp) fun e _ hst=>qh ?_;unfold QM;refine sW ?_;refine C1.im (jf s hs.2.1 hs.1) (by rfl) (by rfl) ?_;simp only[tZ,↓un_u,simprocAttr,Bj,Aw];refine⟨fun h=>?_,fun h=>?_⟩
 ·rw[chkC,Aj h];exact .oA [] []
 have hok:=qO h;refine C1.im (qN8 c 40 (by omega) (by omega)) (by rfl) (by rfl) ?_;rw[show (40:Int)+1=41 from rfl];refine sD ?_;refine⟨fun h2=>?_,fun h2=>?_⟩
 ·rw[chkC,Aq (by rw[h];simp),Aj h2];exact .oA [] []
 refine C1.im (qV7 c 41 (by omega) (by omega) (by omega)) (by rfl) (by rfl) ?_;refine sD ?_;refine⟨fun h3=>?_,fun h3=>?_⟩
 ·rw[chkC,Aq (by rw[h];simp),Aq h2,Aj (by omega)];exact .oA [] []
 rw[chkC,Aq (by rw[h];simp),Aq h2,Aq (by omega)];refine C1.im (qt2 s hok c) (by rfl) (by rfl) ?_;refine sW ?_;exact .oA [] []
theorem ZV (b:Bool):Spc Tryz.prog jU [vB b] [] (vI (tf b)) []:=by
 refine qd qF2 mixm (by simp) fun e _ hst=>qh ?_;unfold QZ;refine sW ?_;cases b
 ·refine sW ?_;exact .oA [] []
 ·refine sW ?_;exact .oA [] []
theorem qg7 (s:Sch) (hok:SchOk s) (c:Cnd) (hc:NdOk s c) (ha:isAt c=true) (v:Int):Spc Tryz.prog yC [schT s,cnT c,vI v] [] (vI (Zc s c v)) []:=by
 have hn0:=hok.nl;have hn1:=hok.nc;have hA:Zc s c v=if c.op=2 then tf (qn1 (qK s c.col.toNat) v c.code)
 else if c.op=3 then (if v=zz then 0 else tf (decide (c.lo≤v)&&decide (v≤c.hi)))
 else if c.op=4 then tf (v==zz) else -1:=rfl
 rw[hA];by_cases h2:c.op=2
 ·obtain⟨b,b4,b5⟩:=hc.under h2;obtain⟨b1,b2,b3⟩:=zH.1 b;obtain⟨i,hci⟩:=AJ b1;rw[hci] at b2 b5;rw[hci,Ax] at b3;rw[Ax] at b5;have hil:i<s.cols.length:=by omega
  have hat:qj s i=s.cols[i]:=by rw[qj,qg hil]
  have hcd:=hok.cdl hil b3;have hcd2:=(qZ (hok.cs i hil)).2.2.2.1 b3;have hcl:qK s i=s.lists.getD s.cols[i].list.toNat default:=by rw[qK,hat]
  rw[hat] at hcd hcd2;rw[Aj h2,hci,Ax];rw[hcl,qg hcd.1] at hcd ⊢
  have q:(c.op==2)=true:=AY.2 h2;refine qd ZP mixm (by simp) fun e _ hst=>qh ?_;unfold jX;simp only[tZ,↓un_u,simprocAttr,q,hci,Ax,qe hil,qe hcd.1];refine⟨by omega,by omega,?_⟩;refine C1.im (zC6 _ v c.code) (by rfl) (by rfl) ?_;refine sW ?_
  repeat (first | refine⟨by omega,?_⟩ | refine⟨by kernel_rfl,?_⟩)
  refine C1.im (ZV _) (by rfl) (by rfl) ?_;refine sW ?_
  repeat (first | refine⟨by omega,?_⟩ | refine⟨by kernel_rfl,?_⟩)
  exact .oA [] []
 have q:(c.op==2)=false:=Ak.2 h2;rw[Aq h2];by_cases h4:c.op=4
 ·have q4:(c.op==4)=true:=AY.2 h4;rw[Aq (by omega),Aj h4];refine qd ZP mixm (by simp) fun e _ hst=>qh ?_;unfold jX;simp only[tZ,↓un_u,simprocAttr,q,q4];rw[show (-1099511627776:Int)=zz from rfl];refine C1.im (ZV _) (by rfl) (by rfl) ?_;refine sW ?_;exact .oA [] []
 have q4:(c.op==4)=false:=Ak.2 h4;have h3:c.op=3:=by
  unfold isAt at ha;rw[q,q4] at ha;simpa using ha
 rw[Aj h3];refine qd ZP mixm (by simp) fun e _ hst=>qh ?_;unfold jX;simp only[tZ,↓un_u,simprocAttr,q,q4,AY,Ak];rw[show (-1099511627776:Int)=zz from rfl];refine⟨fun h=>?_,fun h=>?_⟩
 ·rw[Aj h];exact .oA [] []
 ·rw[Aq h];refine C1.im (ZV _) (by rfl) (by rfl) ?_;refine sW ?_;exact .oA [] []
theorem qN9:∀ (c:Cnd) (m:Int),1≤m→m≤1000→cntC c m<m→Spc Tryz.prog wO [cnT c] [] (vCs (atsC c)) []:=by
 refine Cnd.ind' fun c ih m hm hm2 hc=>?_;have hal:=zf5 c m hm hc;rw[YI] at hc hal;obtain⟨hk1,hk2⟩:=qF8 (by omega) hc;have hi:isAt c=((c.op==2)||(c.op==3)||(c.op==4)):=rfl;refine qd qE5 mixm (by simp) fun e _ hst=>qh ?_;unfold QW;refine sW ?_;rw[← hi];refine⟨fun h=>?_,fun h=>?_⟩
 ·rw[qM8,Aj h];show Zq [] _ _ (.sl 6 [cndT c]) [];rw[zw];exact .oA [] [12292]
 ·rw[qM8,Aq (by rw[h];simp)] at hal ⊢
  refine qw mixm (α:=Nat) [3,24,18] (fun i=>i≤c.kids.length) (fun i=>[(3,.asl 1 (WH (c.kids.take i)).length),(24,vI i)]) (fun i=>[(1,.arr 6 ((WH (c.kids.take i)).map cndT) false)]) (fun i=>c.kids.length-i) 0 (by omega) ?_ fun i hi2=>?_
  ·exact .oA [(1,none)] []
  have htl:=Zf c.kids i;refine sD ?_;refine⟨fun h5=>?_,fun h5=>?_⟩
  ·have hi2:i<c.kids.length:=by omega
   have hwi:=qk (i:=i) (by omega);obtain⟨m',a1,a2,a3⟩:=hk2 _ (AX hi2);have htl2:=Zf c.kids (i+1);rw[qM hi2,qa5,AW] at htl2;simp only[tZ,↓un_u,simprocAttr,Ax,qe hi2,zw];refine⟨by omega,?_⟩;refine C1.im (ih _ (AX hi2) m' a1 (by omega) a3) (by rfl) (by rfl) ?_;simp only[tZ,↓un_u,simprocAttr,hwi];refine⟨by omega,i+1,by omega,by omega,?_⟩;rw[qM hi2,qa5,By];refine .of [(1,some 1)] [] rfl (by first | rfl | (rw[hst];rfl)) ?_ ?_
   all_goals (try simp only[tL,simprocAttr,By,List.map_cons,List.map_nil,BW,Cy,Dj])
   all_goals (try (repeat' (first | exact ze | (apply zB;intro _;exact⟨rfl,rfl⟩) | (apply qH;intro _;exact⟨rfl,rfl⟩) | with_reducible apply qX | with_reducible refine qT ⟨rfl,rfl⟩ ?_ | exact qY | with_reducible apply qU | with_reducible refine qW ⟨rfl,rfl,?_⟩ ?_ | with_reducible apply Az | exact qV rfl | exact qV (by assumption) | (refine⟨⟨?_,rfl,?_,rfl,?_⟩,trivial⟩ <;> first | (simp;done) | (apply qH;intro _;exact⟨rfl,rfl⟩)) | trivial | rfl | (rw[qk (by omega)]) | omega)))
   all_goals first | exact zB2 _ | exact zO3 _
  ·have hil:i=c.kids.length:=by omega
   subst hil;rw[Bw];refine .of [] [1] rfl (by first | rfl | (rw[hst];rfl)) ?_ ?_
   all_goals (try simp only[tL,simprocAttr,By,List.map_cons,List.map_nil,BW,Cy,Dj])
   all_goals (try (repeat' (first | exact ze | (apply zB;intro _;exact⟨rfl,rfl⟩) | (apply qH;intro _;exact⟨rfl,rfl⟩) | with_reducible apply qX | with_reducible refine qT ⟨rfl,rfl⟩ ?_ | exact qY | with_reducible apply qU | with_reducible refine qW ⟨rfl,rfl,?_⟩ ?_ | with_reducible apply Az | exact qV rfl | exact qV (by assumption) | (refine⟨⟨?_,rfl,?_,rfl,?_⟩,trivial⟩ <;> first | (simp;done) | (apply qH;intro _;exact⟨rfl,rfl⟩)) | trivial | rfl | (rw[qk (by omega)]) | omega)))
   all_goals first | exact zB2 _ | exact zO3 _
end Go.Proofs
namespace Go.Proofs
open Go Go.TL
set_option maxRecDepth 4000
set_option maxHeartbeats 8000000
theorem qg8 (n w:Int) (hw:0<w∧w≤1000000) (hn : -4611686018427387904<n∧n<4611686018427387904):Spc Tryz.prog yD [vI n,vI w] [] (vI (qA n w*w)) []:=by
 rw[zW8 hw.1];have h2:=Int.tmod_lt_of_pos n hw.1;have h3:=Int.lt_tmod_of_pos n hw.1;have w1:IntKind.i64.wrap (n.tmod w)=n.tmod w:=AK _ (by omega);have w2:IntKind.i64.wrap (n.tmod w+w)=n.tmod w+w:=AK _ (by omega);have w3:IntKind.i64.wrap (n-n.tmod w)=n-n.tmod w:=AK _ (by omega);have w4:IntKind.i64.wrap (n-(n.tmod w+w))=n-(n.tmod w+w):=AK _ (by omega);refine qd qM2 mixm (by simp) fun e _ hst=>qh ?_;unfold ZQ;simp only[tZ,↓un_u,simprocAttr,w1,w2,w3,w4,tD];refine⟨by omega,fun h=>?_,fun h=>?_⟩
 ·rw[Aj h];exact .oA [] []
 ·rw[Aq h];exact .oA [] []
theorem qO0 (c:Col) (lev:Int) (h1:1≤lev∧lev≤c.widths.length) (h2:c.widths.length<4611686018427387904):Spc Tryz.prog ZB [colT c,vI lev] [] (vI (qD c lev)) []:=by
 have hw:IntKind.i64.wrap ((c.widths.length:Int)-lev)=(c.widths.length:Int)-lev:=AK _ (by omega);have hk:((c.widths.length:Int)-lev).toNat<c.widths.length:=by omega
 refine qd qF0 mixm (by simp) fun e _ hst=>qh ?_;unfold QY;simp only[tZ,↓un_u,simprocAttr,hw,qe hk];rw[qD,qg hk];refine⟨by omega,?_⟩;exact .oA [] []
theorem qI1 (k k' v:Int):∀ l:List (Int×Int),TL.look TL.eqI k (TL.asg TL.eqI k' v l)=if k=k' then some v else TL.look TL.eqI k l
 | []=>by
   simp only[TL.asg,TL.look,TL.eqI,AY]
 | (a,b)::r=>by
   have ih:=qI1 k k' v r;simp only[TL.asg,TL.eqI,AY] at ih ⊢
   by_cases h:k'=a
   ·subst h;rw[Aj rfl];simp only[TL.look,TL.eqI,AY];split <;> rfl
   ·rw[Aq h];simp only[TL.look,TL.eqI,AY];rw[ih];by_cases h2:k=a
    ·subst h2;rw[Aj rfl,Aq (fun e=>h e.symm),Aj rfl]
    ·rw[Aq h2,Aq h2]
theorem zQ1 {n w:Int} (hw:0<w):(qA n w*w==n)=(n.tmod w==0):=by
 rw[zW8 hw,Bool.eq_iff_iff,AY,AY];have h2:=Int.tmod_lt_of_pos n hw;have h3:=Int.lt_tmod_of_pos n hw;split <;> omega
theorem qt3 (s:Sch) (hE:schE s=0) (c:Cnd) (hnd:NdOk s c) (ha:isAt c=true) (lev:Nat) (hl:(lev:Int)≤finI s c.col):Spc Tryz.prog wY [schT s,cnT c,vI lev] [] (vB (decB s c lev)) []:=by
 have hok:=qO hE;have hn0:=hok.nl;have hn1:=hok.nc;obtain⟨_,c1,c2,hfin⟩:=yY (s:=s) (c:=c.col) (by omega);obtain⟨i,hci⟩:=AJ (show 0≤c.col by omega);have hcn:c.col.toNat=i:=by omega
 have hil:i<s.cols.length:=by omega
 have hat:qj s i=s.cols[i]:=by rw[qj,qg hil]
 have hcd:=fun e=>hok.cdl hil e;have hcd2:=(qZ (hok.cs i hil)).2.2.2.1;have hwd:=fun e l=>hok.wid hil (by omega) e (lev:=l);have hll:=qa8 hok hil;have hcl:qK s i=s.lists.getD s.cols[i].list.toNat default:=by rw[qK,hat]
 have hlh:=fun h2 v=>qa4 (s:=s) (i:=i) h2 (v:=v);have hfi:∀ h2:(qj s i).kind=2,finI s c.col=zk (qK s i)-1:=fun h2=>by rw[hfin,hcn,Aj h2]
 have hco:∀ h2:(qj s i).kind=2,∀ v∈qJ s i,qu s c.col lev v=upC (qK s i) v lev:=fun h2 v hv=>by
  have:=qa4 h2 (hcd h2).2 hv;rw[qu,Aq (by rw[Ez,wB];omega),hcn,Aj h2,Aq (by rw[this];simp)]
 rw[hcn,hat] at hfin;rw[hat] at hwd hll hcd hcd2 hfi hco;have hD:decB s c lev=if c.op=2 then qs7 (qJ s i).length (decP s c lev)
 else if c.op=4 then decide (0<lev)
 else if lev=0 then !s.cols[i].opt&&!(decide (s.cols[i].low<c.lo)&&decide (c.lo≤s.cols[i].high))&&!(decide (s.cols[i].low≤c.hi)&&decide (c.hi<s.cols[i].high))
  else (!(decide (s.cols[i].low<c.lo)&&decide (c.lo≤s.cols[i].high))||(c.lo.tmod (qD s.cols[i] lev)==0))&&(!(decide (s.cols[i].low≤c.hi)&&decide (c.hi<s.cols[i].high))||((c.hi+1).tmod (qD s.cols[i] lev)==0)):=by
  rw[decB,hcn,hat]
 have hk2:c.op=2→s.cols[i].kind=2:=fun h=>by
  have:=(zH.1 (hnd.under h).1).2.2;rw[hcn,hat] at this;exact this
 have hk3:c.op=3→s.cols[i].kind=3:=fun h=>by
  have:=(zH.1 (hnd.between h).1).2.2;rw[hcn,hat] at this;exact this
 have hm4:c.op=4→s.cols[i].opt=true:=fun h=>by
  have:=(hnd.miss h).2;rw[hcn,hat] at this;exact this
 have hPd:∀ L,qJ s i=L→∀ j k,decP s c lev j k=!((qu s c.col lev (L.getD j 0)==qu s c.col lev (L.getD k 0))&&!(Zc s c (L.getD j 0)==Zc s c (L.getD k 0))):=fun L hL j k=>by rw[decP,hcn,hL]
 have hlv:qJ s i=atL (qK s i) (zk (qK s i)-1):=rfl;rw[hD];rw[hcl] at hcd hco hlv;refine qd qm4 mixm (by simp) fun e _ hst=>qh ?_;unfold wx;simp only[tZ,↓un_u,simprocAttr,hcn,qe hil];have hmw:s.cols[i].kind=3→1≤s.cols[i].widths.length:=fun h=>by
  have:=(qZ (hok.cs i hil)).2.2.2.2 (by rw[hat];exact h);rw[hat] at this;unfold measE at this
  grind
 generalize s.cols[i]=x at hmw hwd hfin hll hk2 hk3 hm4 hcd hcd2 hco hlv ⊢
 simp only[tZ,↓un_u,simprocAttr,AY,Ak];refine⟨by omega,fun h2=>?_,fun h2=>?_⟩
 ·rw[Aj h2];obtain⟨d1,d2⟩:=hcd (hk2 h2);obtain⟨d3,d4⟩:=hcd2 (hk2 h2);have hco:=hco (hk2 h2);have hll:=hll (hk2 h2);have hPd:=hPd _ rfl;rw[qg d1] at d2 hco hlv;rw[hlv] at hco hll hPd ⊢
  have hAt:=qg7 s hok c hnd ha;simp only[tZ,↓un_u,simprocAttr,qe d1];refine⟨by omega,?_⟩;generalize s.lists[x.list.toNat]=l at d2 hco hll hPd ⊢
  have hlvl:=qn2 (l:=l);have hw2:IntKind.i64.wrap (zk l-1)=zk l-1:=AK _ (by omega);refine C1.im (Jd l) (by rfl) (by rfl) ?_;simp only[tZ,↓un_u,simprocAttr,hw2];refine C1.im (qq2 l (zk l-1)) (by rfl) (by rfl) ?_;refine sW ?_
  repeat (first | refine⟨by omega,?_⟩ | refine⟨by kernel_rfl,?_⟩)
  generalize atL l (zk l-1)=L at hco hll hPd ⊢
  refine qw mixm (α:=Nat×List (Int×Int)) [41] (fun y=>y.1≤L.length∧qs7 y.1 (decP s c lev)=true∧(∀ a,a<y.1→TL.look TL.eqI (upC l (L.getD a 0) lev) y.2=some (Zc s c (L.getD a 0)))∧∀ k v,TL.look TL.eqI k y.2=some v→∃ a,a<y.1∧upC l (L.getD a 0) lev=k∧Zc s c (L.getD a 0)=v) (fun y=>[(41,vI y.1)]) (fun y=>[(4096,.arr 2 [schT s] false),(4100,.arr 6 [cnT c] false),(16408,.arr 2 [cdlT l] false),(20480,.mp (.ii y.2))]) (fun y=>L.length-y.1) (0,[]) ⟨by simp,rfl,by simp,by simp [TL.look]⟩ ?_ fun y hy=>?_
  ·exact .oA [(4096,some 4096),(4100,some 4100),(16408,some 16408),(20480,some 20480)] []
  obtain⟨j,M⟩:=y;obtain⟨y1,y2,y3,y4⟩:=hy;dsimp only at y1 y2 y3 y4;refine sD ?_;refine⟨fun h3=>?_,fun h3=>?_⟩
  ·have hj2:j<L.length:=by omega
   have hwj:=qk (i:=j) (by omega);have hgj:L.getD j 0=L[j]:=qg hj2;have hP:∀ a,a<j→decP s c lev j a=!((upC l L[j] lev==upC l (L.getD a 0) lev)&&!(Zc s c L[j]==Zc s c (L.getD a 0))):=fun a ha=>by
    rw[hPd,hgj,hco L[j] (AX hj2),hco (L.getD a 0) (by rw[qg (show a<L.length by omega)];exact AX _)]
   have hlk:=qI1;simp only[tZ,↓un_u,simprocAttr,Ax,qe hj2];refine⟨by omega,?_⟩;refine C1.im (qb1 l L[j] lev) (by rfl) (by rfl) ?_;refine sW ?_;refine C1.im (hAt L[j]) (by rfl) (by rfl) ?_;refine sW ?_
   repeat (first | refine⟨by omega,?_⟩ | refine⟨by kernel_rfl,?_⟩)
   have hfin:∀ v,(∀ w,TL.look TL.eqI (upC l L[j] lev) M=some w→w=Zc s c L[j])→v=Zc s c L[j]→(j+1≤L.length∧qs7 (j+1) (decP s c lev)=true∧(∀ a,a<j+1→TL.look TL.eqI (upC l (L.getD a 0) lev) (TL.asg TL.eqI (upC l L[j] lev) v M)=some (Zc s c (L.getD a 0)))∧∀ k w,TL.look TL.eqI k (TL.asg TL.eqI (upC l L[j] lev) v M)=some w→∃ a,a<j+1∧upC l (L.getD a 0) lev=k∧Zc s c (L.getD a 0)=w):=fun v hv e=>by
    subst e;have hsame:∀ a,a<j→upC l (L.getD a 0) lev=upC l L[j] lev→Zc s c (L.getD a 0)=Zc s c L[j]:=fun a ha he=>by
     have:=y3 a ha;rw[he] at this;exact hv _ this
    refine⟨by omega,?_,fun a h5=>?_,fun k w h5=>?_⟩
    ·rw[qM9,y2,Fq,Bk];intro a ha;rw[Dk] at ha;rw[hP a ha];by_cases q:upC l (L.getD a 0) lev=upC l L[j] lev
     ·rw[hsame a ha q];simp
     ·rw[Ak.2 (fun e=>q e.symm)];rfl
    ·rw[qI1];by_cases q:a=j
     ·subst q;rw[hgj,Aj rfl]
     ·split
      ·rename_i q2;rw[hsame a (by omega) q2]
      ·exact y3 a (by omega)
    ·rw[qI1] at h5;split at h5
     ·rename_i q;exact⟨j,by omega,by rw[hgj,q],by rw[hgj];simpa using h5⟩
     ·obtain⟨a,a1,a2,a3⟩:=y4 k w h5;exact⟨a,by omega,a2,a3⟩
   cases hf:TL.look TL.eqI (upC l L[j] lev) M with
   | none=>
     simp only[tZ,↓un_u,simprocAttr,hf,Option.isSome_none,hwj];refine⟨fun h=>by simp at h,fun _=>⟨(j+1,_),hfin _ (fun w h=>by rw[hf] at h;cases h) rfl,by dsimp only;omega,?_⟩⟩;exact .oA [(4096,some 4096),(4100,some 4100),(16408,some 16408),(20480,some 20480)] []
   | some w=>
     simp only[tZ,↓un_u,simprocAttr,hf,Option.isSome_some,Option.getD_some,Bj,Aw,hwj];refine⟨fun h5=>?_,fun h5=>?_⟩
     ·obtain⟨a,a1,a2,a3⟩:=y4 _ _ hf;rw[zA6 hj2 a1 (by rw[hP a a1,a2,a3,beq_self_eq_true,Ak.2 (fun e=>h5 e.symm)];rfl)];exact .oA [] []
     ·refine⟨(j+1,_),hfin _ (fun w' h=>by rw[hf] at h;cases h;exact h5) rfl,by dsimp only;omega,?_⟩;exact .oA [(4096,some 4096),(4100,some 4100),(16408,some 16408),(20480,some 20480)] []
  ·have hjl:j=L.length:=by omega
   subst hjl;rw[y2];exact .oA [] []
 rw[Aq h2];by_cases h4:c.op=4
 ·rw[Aj h4];have ho:=hm4 h4;by_cases hz:lev=0
  ·subst hz;simp only[tZ,↓un_u,simprocAttr,ho];exact .oA [] []
  ·have e0:((lev:Int)==0)=false:=Ak.2 (by omega);simp only[tZ,↓un_u,simprocAttr,e0,AY,Ak];rw[Cx (show 0<lev by omega)];refine⟨fun h=>by simp at h,fun _=>⟨fun _=>?_,fun h=>absurd h4 h⟩⟩;exact .oA [] []
 rw[Aq h4];have h3:c.op=3:=by
  unfold isAt at ha;simp only[DZ,AY] at ha;omega
 have hk3:=hk3 h3;have hb:=hnd.between h3;rw[Aq (by omega)] at hfin;have q4:(c.op==4)=false:=Ak.2 h4;have hxw:=hmw hk3;obtain⟨_,_,_,x4,x5,x6,x7,_⟩:=hwd (by omega) 1 (by omega);by_cases hz:lev=0
 ·subst hz;simp only[tZ,↓un_u,simprocAttr,zQ0,jF9,tD];refine⟨fun h=>?_,fun h=>⟨fun k=>absurd k h4,fun _=>?_⟩⟩
  ·rw[h];exact .oA [] []
  ·rw[h]
   repeat (first | refine⟨by omega,?_⟩ | refine⟨by kernel_rfl,?_⟩)
   refine⟨fun h5=>?_,fun h5=>?_⟩
   ·rw[show (!false&&!(decide (x.low<c.lo)&&decide (c.lo≤x.high))&&!(decide (x.low≤c.hi)&&decide (c.hi<x.high)))=true by grind];exact .oA [] []
   ·rw[show (!false&&!(decide (x.low<c.lo)&&decide (c.lo≤x.high))&&!(decide (x.low≤c.hi)&&decide (c.hi<x.high)))=((max c.lo x.low==x.low)&&(min c.hi x.high==x.high)) by grind];exact .oA [] []
 have e0:((lev:Int)==0)=false:=Ak.2 (by omega);rw[Aq hz];obtain⟨w1,w2,_⟩:=hwd (by omega) lev (by omega);simp only[tZ,↓un_u,simprocAttr,e0,zQ0,jF9,tD];refine fun _=>⟨fun k=>absurd k h4,fun _=>?_⟩
 repeat (first | refine⟨by omega,?_⟩ | refine⟨by kernel_rfl,?_⟩)
 refine⟨fun h5=>?_,fun h5=>?_⟩
 ·rw[show ((!(decide (x.low<c.lo)&&decide (c.lo≤x.high))||(c.lo.tmod (qD x lev)==0))&&(!(decide (x.low≤c.hi)&&decide (c.hi<x.high))||((c.hi+1).tmod (qD x lev)==0)))=true by grind];exact .oA [] []
 refine⟨fun h=>by omega,fun _=>?_⟩;refine C1.im (qO0 x lev (by omega) (by omega)) (by rfl) (by rfl) ?_;generalize qD x lev=w at w1 w2 ⊢
 have hF:((!(decide (x.low<c.lo)&&decide (c.lo≤x.high))||(c.lo.tmod w==0))&&(!(decide (x.low≤c.hi)&&decide (c.hi<x.high))||((c.hi+1).tmod w==0)))=(((max c.lo x.low==x.low)||(qA (max c.lo x.low) w*w==max c.lo x.low))&&((min c.hi x.high==x.high)||(qA (min c.hi x.high+1) w*w==min c.hi x.high+1))):=by
  rw[zQ1 (by omega),zQ1 (by omega)]
  congr 1
  ·by_cases k:x.low<c.lo
   ·rw[show max c.lo x.low=c.lo by omega,Cx k,Cx (show c.lo≤x.high by omega),Ak.2 (show c.lo≠x.low by omega)]
    rfl
   ·rw[show max c.lo x.low=x.low by omega,Cq k,beq_self_eq_true];simp
  ·by_cases k:c.hi<x.high
   ·rw[show min c.hi x.high=c.hi by omega,Cx k,Cx (show x.low≤c.hi by omega),Ak.2 (show c.hi≠x.high by omega)]
    rfl
   ·rw[show min c.hi x.high=x.high by omega,Cq k,beq_self_eq_true];simp
 rw[hF];have hwm:IntKind.i64.wrap (min c.hi x.high+1)=min c.hi x.high+1:=AK _ (by omega);refine sW ?_;refine C2.im (fun _=>qg8 (max c.lo x.low) w (by omega) (by omega)) (fun _=>rfl) (by rfl) ?_;simp only[tZ,↓un_u,simprocAttr,hwm];refine C2.im (fun _=>qg8 (min c.hi x.high+1) w (by omega) (by omega)) (fun _=>rfl) (by rfl) ?_;simp only[tZ,↓un_u,simprocAttr,hwm]
 repeat (first | refine⟨by omega,?_⟩ | refine⟨by kernel_rfl,?_⟩)
 exact .oA [] []
end Go.Proofs
namespace Go.Proofs
open Go Go.TL
set_option maxRecDepth 4000
set_option maxHeartbeats 8000000
def canF (f:Nat→Int):Nat→List Pk
 | 0=>[]
 | n+1=>canF f n++(if 0<f n then [⟨n,f n⟩] else [])
theorem qb2 {f g:Nat→Int}:∀ {n:Nat},(∀ k,k<n→f k=g k)→canF f n=canF g n
 | 0,_=>rfl
 | n+1,h=>by rw[canF,canF,qb2 fun k hk=>h k (by omega),h n (by omega)]
theorem zD2 (f:Nat→Int):∀ n,(canF f n).length≤n
 | 0=>BZ _
 | n+1=>by
   have:=zD2 f n;rw[canF,AW];split <;> simp <;> omega
theorem zh4 {f:Nat→Int}:∀ {n:Nat},(∀ k,k<n→f k≤0)→canF f n=[]
 | 0,_=>rfl
 | n+1,h=>by
   have:=h n (by omega);rw[canF,zh4 fun k hk=>h k (by omega),Aq (by omega)];rfl
theorem zQ2 {f:Nat→Int} {n:Nat}:∀ d,(∀ k,n≤k→k<n+d→f k≤0)→canF f (n+d)=canF f n
 | 0,_=>rfl
 | d+1,h=>by
   have:=h (n+d) (by omega) (by omega);rw[show n+(d+1)=n+d+1 from rfl,canF,Aq (by omega),CW,zQ2 d fun k h1 h2=>h k h1 (by omega)]
theorem Kw {f:Nat→Int} {p:Pk}:∀ {n:Nat},p∈canF f n↔∃ k,k<n∧0<f k∧p=⟨k,f k⟩
 | 0=>by simp [canF]
 | n+1=>by
   rw[canF,Dz,Kw];constructor
   ·rintro (⟨k,h1,h2,h3⟩ | h)
    ·exact⟨k,by omega,h2,h3⟩
    ·split at h
     ·rename_i h2;exact⟨n,by omega,h2,by simpa using h⟩
     ·simp at h
   ·rintro ⟨k,h1,h2,h3⟩;by_cases e:k=n
    ·subst e;right;rw[Aj h2];simpa using h3
    ·exact .inl ⟨k,by omega,h2,h3⟩
def upd (f:Nat→Int) (c:Nat) (v:Int):Nat→Int:=fun k=>if k=c then max (f k) v else f k
theorem zu6 {f:Nat→Int} (hf:∀ k,0≤f k) (c:Nat) (v:Int):∀ m,∀ x,(canF f m).foldl (qi5 c v) ([],decide (v≤0))=x→
 (m≤c→x.2=decide (v≤0))∧(x.2=true→x.1=canF (upd f c v) m)∧(x.2=false→0<v∧x.1++(if c<m then [⟨c,v⟩] else [])=canF (upd f c v) m)
 | 0,x,h=>by
   subst h;refine⟨fun _=>rfl,fun _=>rfl,fun h=>⟨?_,by rw[Aq (by omega)];rfl⟩⟩;have:=of_decide_eq_false h;omega
 | m+1,x,h=>by
   rw[canF,Gx] at h;obtain⟨i1,i2,i3⟩:=zu6 hf c v m _ rfl;generalize (canF f m).foldl (qi5 c v) ([],decide (v≤0))=y at h i1 i2 i3;obtain⟨l,b⟩:=y;dsimp only at i1 i2 i3;have hm:=hf m;by_cases h0:0<f m
   ·rw[Aj h0,Dw,List.foldl_nil] at h;unfold qi5 at h;dsimp only at h;rcases Nat.lt_trichotomy m c with q | q | q
    ·rw[Aq (by omega),Aq (by omega)] at h;subst h;have hu:upd f c v m=f m:=by rw[upd,Aq (by omega)]
     refine⟨fun _=>i1 (by omega),fun e=>?_,fun e=>⟨(i3 e).1,?_⟩⟩
     ·dsimp only at e ⊢
      rw[i2 e,canF,hu,Aj h0]
     ·dsimp only at e ⊢
      have:=(i3 e).2;rw[Aq (by omega),CW] at this;rw[Aq (by omega),CW,this,canF,hu,Aj h0]
    ·subst q;rw[Aj rfl,Aq (show ¬ ((m:Int)>m∧b=false) from fun h=>by omega)] at h;subst h;have hu:upd f m v m=max (f m) v:=by rw[upd,Aj rfl]
     refine⟨fun e=>by omega,fun _=>?_,fun e=>by simp at e⟩;dsimp only;have:l=canF (upd f m v) m:=by
      cases b with
      | true=>exact i2 rfl
      | false=>
        have:=(i3 rfl).2;rw[Aq (by omega),CW] at this;exact this
     rw[this,canF,hu,Aj (by omega)]
    ·have hu:upd f c v m=f m:=by rw[upd,Aq (by omega)]
     have hc:((m:Int)>(c:Int)):=by omega
     cases b with
     | true=>
       rw[Aq (show ¬ ((m:Int)=c) by omega),Aq (show ¬ ((m:Int)>c∧true=false) from fun h=>by simp at h)] at h;subst h;refine⟨fun e=>by omega,fun _=>?_,fun e=>by simp at e⟩;dsimp only;rw[i2 rfl,canF,hu,Aj h0]
     | false=>
       rw[Aq (show ¬ ((m:Int)=c) by omega),Aj ⟨hc,rfl⟩] at h;subst h;refine⟨fun e=>by omega,fun _=>?_,fun e=>by simp at e⟩;dsimp only;have:=(i3 rfl).2;rw[Aj q] at this;rw[this,canF,hu,Aj h0]
   ·rw[Aq h0,List.foldl_nil] at h;subst h;dsimp only;have f0:f m=0:=by omega
    by_cases q:m=c
    ·subst q;have hu:upd f m v m=max 0 v:=by rw[upd,Aj rfl,f0]
     refine⟨fun e=>by omega,fun e=>?_,fun e=>⟨(i3 e).1,?_⟩⟩
     ·have hv:v≤0:=by
       have:=i1 (BZ _);rw[e] at this;exact of_decide_eq_true this.symm
      rw[i2 e,canF,hu,Aq (by omega),CW]
     ·have:=(i3 e).2;rw[Aq (by omega),CW] at this;have hv:=(i3 e).1;rw[this,canF,hu,Aj (by omega),Aj (by omega),show max 0 v=v by omega]
    ·have hu:upd f c v m=f m:=by rw[upd,Aq q]
     refine⟨fun e=>i1 (by omega),fun e=>?_,fun e=>⟨(i3 e).1,?_⟩⟩
     ·rw[i2 e,canF,hu,Aq h0,CW]
     ·have:=(i3 e).2;rw[canF,hu,Aq h0,CW,← this];by_cases q2:c<m
      ·rw[Aj q2,Aj (by omega)]
      ·rw[Aq q2,Aq (by omega)]
theorem zu7 {f:Nat→Int} (hf:∀ k,0≤f k) {c n:Nat} (hc:c<n) (v:Int):Ks (canF f n) c v=canF (upd f c v) n:=by
 obtain⟨_,i2,i3⟩:=zu6 hf c v n _ rfl;unfold Ks;dsimp only;split
 ·rename_i h;exact i2 h
 ·rename_i h;have:=(i3 (by simpa using h)).2;rw[Aj hc] at this;exact this
abbrev lvF (lv:List Int):Nat→Int:=fun k=>lv.getD k 0
theorem kc4 {lv:List Int} {c:Nat} (hc:c<lv.length) (v:Int):lvF (lv.set c (max lv[c] v))=upd (lvF lv) c v:=by
 funext k
 unfold lvF upd;simp only[CY,List.getElem?_set];by_cases e:c=k
 ·subst e;simp [hc]
 ·rw[Aq e,Aq (fun h=>e h.symm)]
theorem kc5 {lv:List Int} (h:∀ x∈lv,0≤x) (k:Nat):0≤lvF lv k:=by
 unfold lvF;by_cases hk:k<lv.length
 ·rw[qg hk];exact h _ (AX hk)
 ·simp [List.getD,List.getElem?_eq_none (show lv.length≤k by omega)]
theorem jQ4 (n:Nat):canF (lvF (List.replicate n 0)) n=[]:=zh4 fun k hk=>by
 unfold lvF;rw[qg (by simpa using hk),List.getElem_replicate];omega
theorem qO1 (s:Sch) (hs:yX s) (c:Cnd):Spc Tryz.prog Zw [schT s,cnT c] [] (vPs (ji s c)) []:=by
 refine qd qD5 mixm (by simp) fun e _ hst=>qh ?_;unfold QR;refine sW ?_;refine C1.im (ke s hs c) (by rfl) (by rfl) ?_;simp only[tZ,↓un_u,simprocAttr,Bj,Aw];refine⟨fun h=>?_,fun h=>?_⟩
 ·rw[ji,Aj h];exact .oA [] []
 obtain⟨hE,k2,k3,k4⟩:=qy7 h;have hok:=qO hE;have hnc:=hok.nc;have hal:=zf5 c 41 (by omega) k2;have hao:=jh5 c k4;have hN:ji s c=(atsC c).foldl (qV3 s) []:=by rw[ji,Aq (by rw[h];simp)];rfl
 rw[hN];refine⟨by omega,?_⟩;refine C1.im (qN9 c 41 (by omega) (by omega) k2) (by rfl) (by rfl) ?_;generalize atsC c=L at hal hao ⊢
 refine sW ?_;refine qw mixm (α:=Nat×List Int) [23] (fun y=>y.1≤L.length∧y.2.length=s.cols.length∧(∀ x∈y.2,0≤x)∧canF (lvF y.2) s.cols.length=(L.take y.1).foldl (qV3 s) []) (fun y=>[(23,vI y.1)]) (fun y=>[(4096,.arr 2 [schT s] false),(16396,.arr 1 (y.2.map vI) false)]) (fun y=>L.length-y.1) (0,List.replicate s.cols.length 0) ⟨by simp,by simp,fun x hx=>by rw[(List.mem_replicate.1 hx).2];omega,jQ4 _⟩ ?_ fun y hy=>?_
 ·rw[List.map_replicate];refine .of [(4096,some 4096),(16396,some 16396)] [] rfl (by first | rfl | (rw[hst];rfl)) ?_ ?_
  all_goals (try simp only[tL,simprocAttr,By,List.map_cons,List.map_nil,BW,Cy,Ax,jW9])
  all_goals (try (repeat' (first | exact ze | (apply zB;intro _;exact⟨rfl,rfl⟩) | (apply qH;intro _;exact⟨rfl,rfl⟩) | with_reducible apply qX | with_reducible refine qT ⟨rfl,rfl⟩ ?_ | exact qY | with_reducible apply qU | with_reducible refine qW ⟨rfl,rfl,?_⟩ ?_ | with_reducible apply Az | exact qV rfl | exact qV (by assumption) | (refine⟨⟨?_,rfl,?_,rfl,?_⟩,trivial⟩ <;> first | (simp;done) | (apply qH;intro _;exact⟨rfl,rfl⟩)) | trivial | rfl | (rw[qk (by omega)]) | omega)))
 obtain⟨i,lv⟩:=y;obtain⟨y1,y2,y3,y4⟩:=hy;dsimp only at y1 y2 y3 y4;refine sD ?_;refine⟨fun h3=>?_,fun h3=>?_⟩
 ·have hi2:i<L.length:=by omega
  have hwi:=qk (i:=i) (by omega);obtain⟨hnd,ha⟩:=hao _ (AX hi2);obtain⟨n1,n2,n3⟩:=qG0 hE hnd ha;have h59:=qn4 (c:=L[i].col) hE;obtain⟨_,c1,c2,_⟩:=yY (s:=s) (c:=L[i].col) (by omega);have hstep:(L.take (i+1)).foldl (qV3 s) []=Ks ((L.take i).foldl (qV3 s) []) L[i].col (decN s L[i]):=by
   rw[qM hi2,Gx];rfl
  simp only[tZ,↓un_u,simprocAttr,Ax,qe hi2,zw];refine⟨by omega,?_⟩;generalize L[i]=a at hnd ha n1 n2 n3 h59 c1 c2 hstep ⊢
  refine qw mixm (α:=Nat) [8] (fun n=>n≤decN s a) (fun n=>[(8,vI n)]) (fun n=>[(4096,.arr 2 [schT s] false),(16396,.arr 1 (lv.map vI) false),(28680,.arr 6 [cnT a] false)]) (fun n=>decN s a-n) 0 (by omega) ?_ fun n hn=>?_
  ·exact .oA [(4096,some 4096),(16396,some 16396),(28680,some 28680)] []
  have hwn:=qk (i:=n) (by omega);refine sW ?_;refine C1.im (qt3 s hE a hnd ha n (by omega)) (by rfl) (by rfl) ?_;simp only[tZ,↓un_u,simprocAttr,Bx,Bz,hwn];refine⟨fun h4=>?_,fun h4=>?_⟩
  ·have:n≠decN s a:=fun e=>by rw[e,n2] at h4;cases h4
   refine⟨n+1,by omega,by omega,?_⟩;exact .oA [(4096,some 4096),(16396,some 16396),(28680,some 28680)] []
  ·have:n=decN s a:=by
    refine Nat.le_antisymm hn (Nat.le_of_not_lt fun e=>?_);rw[n3 n e] at h4;cases h4
   subst this;obtain⟨q,hq⟩:=AJ (show 0≤a.col by omega);have hq2:q<lv.length:=by omega
   simp only[tZ,↓un_u,simprocAttr,hq,Ax,qe hq2,zQ0,hwi,show ∀ a b:Int,repl (vI a) 0 (vI b)=vI b from fun _ _=>rfl]
   repeat (first | refine⟨by omega,?_⟩ | refine⟨by kernel_rfl,?_⟩)
   refine⟨(i+1,lv.set q (max lv[q] (decN s a))),⟨by dsimp only;omega,by rw[Fw];exact y2,fun x hx=>?_,?_⟩,by dsimp only;omega,?_⟩
   ·rcases List.mem_or_eq_of_mem_set hx with h5 | h5
    ·exact y3 x h5
    ·rw[h5];omega
   ·dsimp only;rw[hstep,← y4,hq,zu7 (kc5 y3) (by omega),kc4 hq2]
   ·rw[← List.map_set];exact .oA [(4096,some 4096),(16396,some 16396)] []
 ·have hil:i=L.length:=by omega
  subst hil;rw[Bw] at y4;rw[← y4];simp only[Ax];refine⟨y2,?_⟩;rw[← y2];refine qw mixm (α:=Nat) [48,9] (fun i=>i≤lv.length) (fun i=>[(9,.asl 1 (canF (lvF lv) i).length),(48,vI i)]) (fun i=>[(16396,.arr 1 (lv.map vI) false),(1,.arr 2 ((canF (lvF lv) i).map pkT) false)]) (fun i=>lv.length-i) 0 (by omega) ?_ fun j hj=>?_
  ·exact .oA [(16396,some 16396),(1,none)] []
  have hcl:=zD2 (lvF lv) j;refine sD ?_;refine⟨fun h5=>?_,fun h5=>?_⟩
  ·have hj2:j<lv.length:=by omega
   have hwj:=qk (i:=j) (by omega);have hg:lvF lv j=lv[j]:=qg hj2;have hc:canF (lvF lv) (j+1)=canF (lvF lv) j++(if 0<lv[j] then [⟨(j:Nat),lv[j]⟩] else []):=by rw[canF,hg]
   simp only[tZ,↓un_u,simprocAttr,Ax,qe hj2,hwj,gt_iff_lt,tD];refine⟨by omega,by omega,fun h6=>?_,fun h6=>?_⟩
   ·rw[Aj h6] at hc;refine⟨by omega,j+1,by omega,by omega,?_⟩;rw[hc,By,AW];exact .oA [(16396,some 16396),(1,some 1)] []
   ·rw[Aq h6,CW] at hc;refine⟨j+1,by omega,by omega,?_⟩;rw[hc];exact .oA [(16396,some 16396),(1,some 1)] []
  ·rw[show lv.length=j by omega];exact .oA [] [1]
theorem qi8 (p n:Pk):Spc Tryz.prog jt [pkT p,.ip (pkT n).cells] [] (vB ((p.col==n.col)&&decide (p.lev≥n.lev))) []:=by
 refine qd qe9 mixm (by simp) fun e _ hst=>qh ?_;unfold kD;refine sW ?_;exact .oA [] []
theorem Zh (p:Pk→Bool) (f:FuncId) (caps:List T) (hcap:imL caps=true) (l:List Pk) (hf:∀ y∈l,Spc Tryz.prog f (pkT y::caps) [] (vB (p y)) []) (hl:l.length<4611686018427387904) :
 Spc Tryz.prog zW [.sl 2 (l.map pkT),.clo f caps] [] (vI (idxI p l)) []:=by
 refine qd YY mixm (by simp) fun e _ hst=>qh ?_;unfold jV;refine sW ?_;refine qw mixm (α:=Nat) [8] (fun i=>i≤l.length∧((l.take i).any p=false)) (fun i=>[(8,vI i)]) (fun i=>[]) (fun i=>l.length-i) 0 ⟨by omega,?_⟩ ?_ fun i hi=>?_
 ·simp
 ·exact .oA [] []
 simp only[tZ,↓un_u,simprocAttr,AZ,Ay];refine⟨fun h=>?_,fun h=>?_⟩
 ·have hi2:i<l.length:=by omega
  have hwi:=qk (i:=i) (by omega);simp only[tZ,↓un_u,simprocAttr,Ax,qe hi2,hwi,qv0];refine⟨by omega,?_⟩;refine C1.im (hf l[i] (AX hi2)) (YU rfl hcap) rfl ?_;refine sW ?_;refine⟨fun h3=>?_,fun h3=>⟨i+1,⟨by omega,kh hi2 hi.2 h3⟩,by omega,?_⟩⟩
  ·rw[idxI,Aj (zt5 hi2 h3),Qd hi2 hi.2 h3];exact .imR rfl rfl
  ·exact .oA [] []
 ·have h2:i=l.length:=by omega
  have h3:=hi.2;rw[h2,Bw] at h3;rw[idxI,Aq (by rw[h3];simp)];exact .imR rfl rfl
theorem jy (p:Pk→Bool) (f:FuncId) (caps:List T) (hcap:imL caps=true) (l:List Pk) (hf:∀ y∈l,Spc Tryz.prog f (pkT y::caps) [] (vB (p y)) []) (hl:l.length<4611686018427387904) :
 Spc Tryz.prog zl [.sl 2 (l.map pkT),.clo f caps] [] (vB (l.any p)) []:=by
 refine qd Wb mixm (by simp) fun e _ hst=>qh ?_;unfold jo;refine sW ?_;refine C1.im (Zh p f caps hcap l hf hl) (ZX rfl hcap) rfl ?_;refine sW ?_;rw[show decide (idxI p l≥0)=l.any p from zb2 p l];exact .imR rfl rfl
theorem qt4 (n:Pk) (a:List Pk) (ha:a.length<4611686018427387904):Spc Tryz.prog jQ [pkT n,.ip [vPs a]] [] (vB (!(a.any fun y=>(y.col==n.col)&&decide (y.lev≥n.lev)))) []:=by
 refine qd ql7 mixm (by simp) fun e _ hst=>qh ?_;unfold wu;refine sW ?_;have hCF:=jy (fun y=>(y.col==n.col)&&decide (y.lev≥n.lev)) jt [.ip (pkT n).cells] rfl a (fun y _=>qi8 y n) ha;refine C1.lend [4096] hCF ?_ (by rfl) (by rfl) ?_
 ·all_goals (try simp only[tL,simprocAttr,By,List.map_cons,List.map_nil,BW,Cy])
  all_goals (try (repeat' (first | exact ze | (apply zB;intro _;exact⟨rfl,rfl⟩) | (apply qH;intro _;exact⟨rfl,rfl⟩) | with_reducible apply qX | with_reducible refine qT ⟨rfl,rfl⟩ ?_ | exact qY | with_reducible apply qU | with_reducible refine qW ⟨rfl,rfl,?_⟩ ?_ | with_reducible apply Az | exact qV rfl | exact qV (by assumption) | (refine⟨⟨?_,rfl,?_,rfl,?_⟩,trivial⟩ <;> first | (simp;done) | (apply qH;intro _;exact⟨rfl,rfl⟩)) | trivial | rfl | (rw[qk (by omega)]) | omega)))
  simp only[ltP];exact⟨rfl,by decide,rfl,qT ⟨rfl,rfl⟩ qY⟩
 refine sW ?_;exact .oA [] []
theorem qI2 (a b:List Pk) (ha:a.length<4611686018427387904) (hb:b.length<4611686018427387904):Spc Tryz.prog Qv [vPs a,vPs b] [] (vB (covB b a)) []:=by
 refine qd qw2 mixm (by simp) fun e _ hst=>qh ?_;unfold yO;refine sW ?_;have hCF:=jy (fun n=>!(a.any fun y=>(y.col==n.col)&&decide (y.lev≥n.lev))) jQ [.ip [vPs a]] rfl b (fun n _=>qt4 n a ha) hb;refine C1.lend [4096] hCF ?_ (by rfl) (by rfl) ?_
 ·all_goals (try simp only[tL,simprocAttr,By,List.map_cons,List.map_nil,BW,Cy])
  all_goals (try (repeat' (first | exact ze | (apply zB;intro _;exact⟨rfl,rfl⟩) | (apply qH;intro _;exact⟨rfl,rfl⟩) | with_reducible apply qX | with_reducible refine qT ⟨rfl,rfl⟩ ?_ | exact qY | with_reducible apply qU | with_reducible refine qW ⟨rfl,rfl,?_⟩ ?_ | with_reducible apply Az | exact qV rfl | exact qV (by assumption) | (refine⟨⟨?_,rfl,?_,rfl,?_⟩,trivial⟩ <;> first | (simp;done) | (apply qH;intro _;exact⟨rfl,rfl⟩)) | trivial | rfl | (rw[qk (by omega)]) | omega)))
  simp only[ltP];exact⟨rfl,by decide,rfl,qT ⟨rfl,rfl⟩ qY⟩
 refine sW ?_;rw[show (!(b.any fun n=>!(a.any fun y=>(y.col==n.col)&&decide (y.lev≥n.lev))))=covB b a by rw[covB,List.not_any_eq_all_not];simp];exact .oA [] []
end Go.Proofs
namespace Go.Proofs
open Go Go.TL
set_option maxRecDepth 4000
set_option maxHeartbeats 8000000
def kiI (s:Sch) (c:Int):Int:=if c<0∨c≥s.cols.length then 0 else (qj s c.toNat).kind
theorem jX2 {s:Sch} {c k:Int} (hk:k≠0):(kiI s c==k)=isB s c k:=by
 rw[Bool.eq_iff_iff,AY,zH,kiI];split
 ·constructor
  ·intro h;omega
  ·intro h;omega
 ·constructor
  ·intro h;exact⟨by omega,by omega,h⟩
  ·intro h;exact h.2.2
theorem zQ3 {s:Sch} {c k:Int} (hk:k≠0):isB s c k=false↔kiI s c≠k:=by rw[← jX2 hk,Ak]
theorem kc6 {s:Sch} {c k:Int} (hk:k≠0):isB s c k=true↔kiI s c=k:=by rw[← jX2 hk,AY]
theorem zU (s:Sch) (c:Int):Spc Tryz.prog zm [schT s,vI c] [] (vI (kiI s c)) []:=by
 refine qd qn0 mixm (by simp) fun e _ hst=>qh ?_;unfold wz;refine sD ?_;refine⟨fun h=>?_,fun h=>?_⟩
 ·rw[kiI,Aj (by omega)];exact .oA [] []
 obtain⟨i,rfl⟩:=AJ (show 0≤c by omega);have hi:i<s.cols.length:=by omega
 rw[kiI,Aq (by omega),Ax,qj,qg hi];simp only[tZ,↓un_u,simprocAttr,Ax,qe hi];refine⟨by omega,?_⟩;exact .oA [] []
theorem empC (c:Cnd):((c.op==0)&&(c.col==0)&&(c.code==0)&&(c.lo==0)&&(c.hi==0)&&((c.kids.length:Int)==0))=qa6 c cnd0:=by
 rw[jh6];show _=((c.op==0)&&(c.col==0)&&(c.code==0)&&(c.lo==0)&&(c.hi==0)&&Qg c.kids [])
 congr 1
 cases c.kids with
 | nil=>rfl
 | cons x r=>
   rw[Qg];exact Ak.2 (by simp;omega)
theorem Wz (c:Cnd):Spc Tryz.prog ky [cnT c] [] (vB (qa6 c cnd0)) []:=by
 refine qd qs6 mixm (by simp) fun e _ hst=>qh ?_;unfold yk;refine sW ?_;rw[← empC];exact .oA [] []
theorem qo1 (x y:Pk):Spc Tryz.prog jE [pkT x,.ip (pkT y).cells] [] (vB (x.col==y.col)) []:=by
 refine qd qi3 mixm (by simp) fun e _ hst=>qh ?_;unfold kU;refine sW ?_;exact .oA [] []
def tabE (s:Sch) (q:Qst):Int:=if Wq s q.dims≠0 then Wq s q.dims else if q.meas≠-1∧isB s q.meas 3=false then 7 else if 0<q.terms.length∨qa6 q.event cnd0=false then 11 else 0
theorem qz3 (s:Sch) (hs:yX s) (q:Qst):Spc Tryz.prog yJ [schT s,qstT q] [] (vI (tabE s q)) []:=by
 have hT:tabE s q=if Wq s q.dims≠0 then Wq s q.dims else if q.meas≠-1∧isB s q.meas 3=false then 7 else if 0<q.terms.length∨qa6 q.event cnd0=false then 11 else 0:=rfl
 have hTD:Wq s q.dims≠0→tabE s q=Wq s q.dims:=fun h=>by rw[hT,Aj h]
 refine qd qr8 mixm (by simp) fun e _ hst=>qh ?_;unfold yg;refine sD ?_;refine⟨fun h=>?_,fun h=>?_⟩
 ·have:Wq s q.dims=1:=by rw[Wq,Aj (by omega)]
  rw[hTD (by rw[this];simp),this];exact .oA [] []
 have hD:Wq s q.dims=zI (dimE s q.dims) q.dims.length:=by rw[Wq,Aq (by omega)]
 generalize tabE s q=E at hT hTD ⊢
 refine qw mixm (α:=Nat) [21] (fun i=>i≤q.dims.length∧(zI (dimE s q.dims) i=0)) (fun i=>[(21,vI i)]) (fun i=>[(4096,.arr 2 [schT s] false),(4100,.arr 17 [qstT q] false)]) (fun i=>q.dims.length-i) 0 ⟨by omega,?_⟩ ?_ fun i hi=>?_
 ·rfl
 ·exact .oA [(4096,some 4096),(4100,some 4100)] []
 simp only[tZ,↓un_u,simprocAttr,AZ,Ay];refine⟨fun h=>?_,fun h=>?_⟩
 ·have hi2:i<q.dims.length:=by omega
  have hpi:pkAt q.dims i=q.dims[i]:=by rw[pkAt,qg hi2]
  have hstep:=Qi hi.2 hi2;have hnext:=jO hi.2;have hA:dimE s q.dims i=if Ql s q.dims[i]≠0 then Ql s q.dims[i] else if isB s q.dims[i].col 2=false then 7 else if ((q.dims.take i).any fun x=>x.col==q.dims[i].col)=true then 10 else 0:=by rw[dimE,hpi]
  rw[← hD] at hstep;have hbad:dimE s q.dims i≠0→E=dimE s q.dims i:=fun h=>by rw[hTD (by rw[hstep h];exact h),hstep h]
  have hi2:i<q.dims.length:=by omega
  have hwi:=qk (i:=i) (by omega);simp only[tZ,↓un_u,simprocAttr,Ax,qe hi2,hwi];refine⟨by omega,?_⟩;refine C1.im (zC7 s hs q.dims[i]) (by rfl) (by rfl) ?_;simp only[tZ,↓un_u,simprocAttr,Bj,Aw];refine⟨fun h3=>?_,fun h3=>?_⟩
  ·rw[Aj h3] at hA;rw[hbad (by rw[hA];exact h3),hA];exact .oA [] []
  rw[Aq (by rw[h3];simp)] at hA;refine C1.im (zU s q.dims[i].col) (by rfl) (by rfl) ?_;have hki:=zQ3 (s:=s) (c:=q.dims[i].col) (k:=2) (by decide);simp only[tZ,↓un_u,simprocAttr,Bj,Aw];refine⟨fun h4=>?_,fun h4=>?_⟩
  ·rw[Aj (hki.2 h4)] at hA;rw[hbad (by rw[hA];simp),hA];exact .oA [] []
  rw[Aq (fun h=>hki.1 h h4)] at hA;have hCF:=jy (fun x=>x.col==q.dims[i].col) jE [.ip (pkT q.dims[i]).cells] rfl (q.dims.take i) (fun x _=>qo1 x q.dims[i]) (by rw[Cz];omega);refine⟨by omega,?_⟩;rw[qk1,zb1];refine C1.lend [24588] hCF ?_ (by rfl) (by rfl) ?_
  ·all_goals (try simp only[tL,simprocAttr,By,List.map_cons,List.map_nil,BW,Cy])
   all_goals (try (repeat' (first | exact ze | (apply zB;intro _;exact⟨rfl,rfl⟩) | (apply qH;intro _;exact⟨rfl,rfl⟩) | with_reducible apply qX | with_reducible refine qT ⟨rfl,rfl⟩ ?_ | exact qY | with_reducible apply qU | with_reducible refine qW ⟨rfl,rfl,?_⟩ ?_ | with_reducible apply Az | exact qV rfl | exact qV (by assumption) | (refine⟨⟨?_,rfl,?_,rfl,?_⟩,trivial⟩ <;> first | (simp;done) | (apply qH;intro _;exact⟨rfl,rfl⟩)) | trivial | rfl | (rw[qk (by omega)]) | omega)))
   simp only[ltP];exact⟨rfl,by decide,rfl,qT ⟨rfl,rfl⟩ qY⟩
  simp only[tZ,↓un_u,simprocAttr,hwi];refine⟨fun h5=>?_,fun h5=>?_⟩
  ·rw[Aj h5] at hA;rw[hbad (by rw[hA];simp),hA];exact .oA [] []
  ·rw[Aq (by rw[h5];simp)] at hA;refine⟨i+1,⟨by omega,by rw[hnext,hA]⟩,by omega,?_⟩;exact .oA [(4096,some 4096),(4100,some 4100)] []
 ·have hi2:i=q.dims.length:=by omega
  subst hi2;rw[← hD] at hi;rw[Aq (by rw[hi.2];simp)] at hT;have hk:=zU s q.meas;refine C2.im (fun _=>hk) (fun _=>rfl) (by rfl) ?_;have hki:=zQ3 (s:=s) (c:=q.meas) (k:=3) (by decide);simp only[tZ,↓un_u,simprocAttr,tD,Bj,Aw];refine⟨fun h5=>?_,fun h5=>?_⟩
  ·rw[Aj (by grind)] at hT;rw[hT];exact .oA [] []
  rw[Aq (by grind)] at hT;refine C2.im (fun _=>Wz q.event) (fun _=>rfl) (by rfl) ?_;simp only[tZ,↓un_u,simprocAttr,tD,gt_iff_lt,Bx,Bz];refine⟨fun h6=>?_,fun h6=>?_⟩
  ·rw[Aj (by grind)] at hT;rw[hT];exact .oA [] []
  ·rw[Aq (by grind)] at hT;rw[hT];exact .oA [] []
def modE (s:Sch) (q:Qst):Int:=if isB s q.meas 3=false then 7 else if wU s q.meas q.terms≠0 then wU s q.meas q.terms else if 0<q.dims.length∨qa6 q.event cnd0=false then 11 else 0
theorem qz4 (s:Sch) (q:Qst):Spc Tryz.prog yK [schT s,qstT q] [] (vI (modE s q)) []:=by
 have hT:modE s q=if isB s q.meas 3=false then 7 else if wU s q.meas q.terms≠0 then wU s q.meas q.terms else if 0<q.dims.length∨qa6 q.event cnd0=false then 11 else 0:=rfl
 generalize modE s q=E at hT ⊢
 have hki:=zQ3 (s:=s) (c:=q.meas) (k:=3) (by decide);refine qd qs0 mixm (by simp) fun e _ hst=>qh ?_;unfold yh;refine sW ?_;refine C1.im (zU s q.meas) (by rfl) (by rfl) ?_;simp only[tZ,↓un_u,simprocAttr,tD,Bj,Aw];refine⟨fun h=>?_,fun h=>?_⟩
 ·rw[Aj (hki.2 h)] at hT;rw[hT];exact .oA [] []
 rw[Aq (fun k=>hki.1 k h)] at hT;refine⟨fun h2=>?_,fun h2=>?_⟩
 ·have:wU s q.meas q.terms=1:=by rw[wU,Aj (by omega)]
  rw[this,Aj (by simp)] at hT;rw[hT];exact .oA [] []
 have hD:wU s q.meas q.terms=zI (qV2 s q.meas q.terms) q.terms.length:=by rw[wU,Aq (by omega)]
 have hTD:wU s q.meas q.terms≠0→E=wU s q.meas q.terms:=fun h=>by rw[hT,Aj h]
 refine qw mixm (α:=Nat) [27] (fun i=>i≤q.terms.length∧(zI (qV2 s q.meas q.terms) i=0)) (fun i=>[(27,vI i)]) (fun i=>[(4096,.arr 2 [schT s] false),(4100,.arr 17 [qstT q] false)]) (fun i=>q.terms.length-i) 0 ⟨by omega,?_⟩ ?_ fun i hi=>?_
 ·rfl
 ·exact .oA [(4096,some 4096),(4100,some 4100)] []
 simp only[tZ,↓un_u,simprocAttr,AZ,Ay];refine⟨fun h=>?_,fun h=>?_⟩
 ·have hi2:i<q.terms.length:=by omega
  have hpi:q.terms.getD i 0=q.terms[i]:=qg hi2;have hstep:=Qi hi.2 hi2;have hnext:=jO hi.2;have hA:qV2 s q.meas q.terms i=if isB s q.terms[i] 3=false then 7 else if q.terms[i]=q.meas∨(q.terms.take i).contains q.terms[i]=true then 10 else 0:=by rw[qV2,hpi]
  rw[← hD] at hstep;have hbad:qV2 s q.meas q.terms i≠0→E=qV2 s q.meas q.terms i:=fun h=>by rw[hTD (by rw[hstep h];exact h),hstep h]
  have hi2:i<q.terms.length:=by omega
  have hwi:=qk (i:=i) (by omega);simp only[tZ,↓un_u,simprocAttr,Ax,qe hi2,hwi];refine⟨by omega,?_⟩;refine C1.im (zU s q.terms[i]) (by rfl) (by rfl) ?_;have hki:=zQ3 (s:=s) (c:=q.terms[i]) (k:=3) (by decide);simp only[tZ,↓un_u,simprocAttr,Bj,Aw];refine⟨fun h4=>?_,fun h4=>?_⟩
  ·rw[Aj (hki.2 h4)] at hA;rw[hbad (by rw[hA];simp),hA];exact .oA [] []
  rw[Aq (fun h=>hki.1 h h4)] at hA;have hCF:=wD (q.terms.take i) q.terms[i] (by rw[Cz];omega);refine⟨fun _=>by omega,?_⟩;rw[qk1,zb1];refine C2.im (fun _=>hCF) (fun _=>rfl) (by rfl) ?_;simp only[tZ,↓un_u,simprocAttr,hwi,tD,AY,Ak];refine⟨fun h5=>?_,fun h5=>?_⟩
  ·rw[Aj h5] at hA;rw[hbad (by rw[hA];simp),hA];exact .oA [] []
  ·rw[Aq (by grind)] at hA;refine⟨i+1,⟨by omega,by rw[hnext,hA]⟩,by omega,?_⟩;exact .oA [(4096,some 4096),(4100,some 4100)] []
 ·have hi2:i=q.terms.length:=by omega
  subst hi2;rw[← hD] at hi;rw[Aq (by rw[hi.2];simp)] at hT;refine C2.im (fun _=>Wz q.event) (fun _=>rfl) (by rfl) ?_;simp only[tZ,↓un_u,simprocAttr,tD,gt_iff_lt,Bx,Bz];refine⟨fun h6=>?_,fun h6=>?_⟩
  ·rw[Aj (by grind)] at hT;rw[hT];exact .oA [] []
  ·rw[Aq (by grind)] at hT;rw[hT];exact .oA [] []
def curE (s:Sch) (q:Qst):Int:=if isB s q.meas 3=false then 7 else if (qj s q.meas.toNat).low<0 then 2 else if chkC s q.event≠0 then chkC s q.event else if 0<q.dims.length∨0<q.terms.length then 11 else 0
theorem qz5 (s:Sch) (hs:yX s) (q:Qst):Spc Tryz.prog yL [schT s,qstT q] [] (vI (curE s q)) []:=by
 have hki:=zQ3 (s:=s) (c:=q.meas) (k:=3) (by decide);refine qd qs2 mixm (by simp) fun e _ hst=>qh ?_;unfold yi;refine sW ?_;refine C1.im (zU s q.meas) (by rfl) (by rfl) ?_;simp only[tZ,↓un_u,simprocAttr,tD,Bj,Aw];refine⟨fun h=>?_,fun h=>?_⟩
 ·rw[curE,Aj (hki.2 h)];exact .oA [] []
 rw[curE,Aq (fun k=>hki.1 k h)];obtain⟨b1,b2,b3⟩:=zH.1 ((kc6 (by decide)).2 h);have hil:q.meas.toNat<s.cols.length:=by omega
 rw[qj,qg hil];simp only[tZ,↓un_u,simprocAttr,qe hil,tD];refine⟨by omega,fun h4=>?_,fun h4=>?_⟩
 ·rw[Aj h4];exact .oA [] []
 rw[Aq h4];refine C1.im (ke s hs q.event) (by rfl) (by rfl) ?_;simp only[tZ,↓un_u,simprocAttr,Bj,Aw];refine⟨fun h5=>?_,fun h5=>?_⟩
 ·rw[Aj h5];exact .oA [] []
 rw[Aq (by rw[h5];simp)];simp only[tZ,↓un_u,simprocAttr,tD,gt_iff_lt];refine⟨fun h6=>?_,fun h6=>?_⟩
 ·rw[Aj (by omega)];exact .oA [] []
 ·rw[Aq (by omega)];exact .oA [] []
theorem Zn (s:Sch) (hs:yX s) (q:Qst):Spc Tryz.prog js [schT s,qstT q] [] (vI (qstE s q)) []:=by
 refine qd qe6 mixm (by simp) fun e _ hst=>qh ?_;unfold kC;refine sW ?_;refine C1.im (jf s hs.2.1 hs.1) (by rfl) (by rfl) ?_;simp only[tZ,↓un_u,simprocAttr,Bj,Aw];refine⟨fun h=>?_,fun h=>?_⟩
 ·rw[qstE,Aj h];exact .oA [] []
 rw[qstE,Aq (by rw[h];simp)];refine C1.im (wC q.name) (by rfl) (by rfl) ?_;simp only[tZ,↓un_u,simprocAttr,tD,Bx,Bz];refine⟨fun h2=>?_,fun h2=>?_⟩
 ·rw[Aj h2];exact .oA [] []
 rw[Aq (by rw[h2];simp)];refine⟨fun h3=>?_,fun h3=>?_⟩
 ·rw[Aj (by omega)];exact .oA [] []
 rw[Aq (by omega)];refine C1.im (ke s hs q.filt) (by rfl) (by rfl) ?_;simp only[tZ,↓un_u,simprocAttr,Bj,Aw,AY,Ak];refine⟨fun h4=>?_,fun h4=>?_⟩
 ·rw[Aj h4];exact .oA [] []
 rw[Aq (by rw[h4];simp)];refine⟨fun h5=>?_,fun h5=>⟨fun h6=>?_,fun h6=>?_⟩⟩
 ·refine C1.im (qz3 s hs q) (by rfl) (by rfl) ?_;rw[show (if wV s q≠0 then wV s q else if (q.kind≠1∧0<q.dims.length)∨(q.kind≠2∧0<q.terms.length)∨(q.kind≠3∧qa6 q.event cnd0=false) then 11 else 0)=tabE s q by
   rw[wV,Aj h5,tabE]
   grind]
  refine sW ?_;exact .oA [] []
 ·refine C1.im (qz4 s q) (by rfl) (by rfl) ?_;rw[show (if wV s q≠0 then wV s q else if (q.kind≠1∧0<q.dims.length)∨(q.kind≠2∧0<q.terms.length)∨(q.kind≠3∧qa6 q.event cnd0=false) then 11 else 0)=modE s q by
   rw[wV,Aq h5,Aj h6,modE]
   grind]
  refine sW ?_;exact .oA [] []
 ·refine C1.im (qz5 s hs q) (by rfl) (by rfl) ?_;rw[show (if wV s q≠0 then wV s q else if (q.kind≠1∧0<q.dims.length)∨(q.kind≠2∧0<q.terms.length)∨(q.kind≠3∧qa6 q.event cnd0=false) then 11 else 0)=curE s q by
   rw[wV,Aq h5,Aq h6,curE]
   grind]
  refine sW ?_;exact .oA [] []
end Go.Proofs
namespace Go.Proofs
open Go Go.TL
set_option maxRecDepth 4000
set_option maxHeartbeats 8000000
def usB (q:Qst) (k:Int):Bool:=decide (k>0)&&zW1 q k
theorem qV9 (q:Qst) (k:Int) (ht:q.terms.length<4611686018427387904):Spc Tryz.prog Js [qstT q,vI k] [] (vB (usB q k)) []:=by
 refine qd qL4 mixm (by simp) fun e _ hst=>qh ?_;unfold ZK;refine sW ?_;refine C2.im (fun _=>wD q.terms k ht) (fun _=>rfl) (by rfl) ?_;refine sW ?_;rw[show (decide (k>0)&&((q.meas==k)||q.terms.contains k))=usB q k from rfl];exact .oA [] []
def cnsL (q:Qst):List Cnd:=if q.kind=3 then [q.filt,q.event] else [q.filt]
theorem qO2 (q:Qst):Spc Tryz.prog Zv [qstT q] [] (vCs (cnsL q)) []:=by
 refine qd qD3 mixm (by simp) fun e _ hst=>qh ?_;unfold QQ;simp only[tZ,↓un_u,simprocAttr,AY,Ak];refine⟨fun h=>?_,fun h=>?_⟩
 ·rw[cnsL,Aj h];show Zq [] _ _ (.sl 6 [cndT q.filt,cndT q.event]) [];rw[zw,zw];exact .oA [] [12304]
 ·rw[cnsL,Aq h];show Zq [] _ _ (.sl 6 [cndT q.filt]) [];rw[zw];exact .oA [] [16392]
def kl6 (s:Sch) (q:Qst) (k a b:Int):Bool:=(usB q k&&(a != b))||(q.dims.any fun d=>(d.col==k)&&(qu s k d.lev a != qu s k d.lev b))||((cnsL q).any fun c=>(atsC c).any fun x=>(x.col==k)&&(Zc s x a != Zc s x b))
end Go.Proofs
