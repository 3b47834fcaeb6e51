/- A part of the proof: SO SO2. -/
import Derived.Test.YtnfagfikoblhfaaGreatDoorK23
namespace Go.Proofs
open Go Go.TL
open Go.TL.So
set_option maxHeartbeats 2000000
theorem qA {xs:List Int} {i:Nat} (h:i<xs.length):(xs.map vI).getD i .junk=vI (gd xs i):=by rw[zy2 h];exact qd h
theorem zL (x y:Int):repl (vI x) 0 (vI y)=vI y:=rfl
theorem qX (x:Int):(vI x).cells.getD 0 .junk=vI x:=rfl
theorem jr (xs:List Int) (i:Nat) (v:Int):(xs.map vI).set i (vI v)=(xs.set i v).map vI:=List.map_set.symm
theorem js (xs:List Int) (i j:Nat):((xs.set i (gd xs j)).set j (gd xs i))=swp xs i j:=rfl
theorem Qd (xs:List Int) (a b:Nat) (hab:a≤b) (hb:b≤xs.length) (hl:xs.length<4611686018427387904) :
 Sp 267 [.asl 0 xs.length,vI a,vI b] [aR 0 1 (xs.map vI)] (.tup []) [aR 0 1 ((insS ltI xs a b).map vI)]:=by
 have hw:=qh (i:=a) oM;refine sIr ym fun e _ hst=>?_;unfold zB;simp only[tZ,↓uU,simprocAttr,hw];refine qt mixm (α:=List Int×Nat) [6] (fun q=>q.1.length=xs.length∧a+1≤q.2∧(q.2≤b∨q.2=a+1)∧insF ltI a (b-q.2) q.2 q.1=insS ltI xs a b) (fun q=>[(6,vI q.2)]) (fun q=>[aR 0 1 (q.1.map vI)]) (fun q=>b-q.2) (xs,a+1) ⟨rfl,BZ _,.inr rfl,rfl⟩ ?_ fun q hq=>?_
 ·exact .oA (U1 0) []
 obtain⟨ys,i⟩:=q;obtain⟨h1,h2,h3,h4⟩:=hq;dsimp only at h1 h2 h3 h4;simp only[tZ,↓uU,simprocAttr,AZ,Ay];refine⟨fun h5=>?_,fun h5=>?_⟩
 ·have hi2:i<b:=by omega
  rw[show b-i=(b-(i+1))+1 by omega,insF] at h4;refine qt mixm (α:=List Int×Nat) [7] (fun q=>q.1.length=xs.length∧a≤q.2∧q.2≤i∧insJ ltI a q.2 q.1=insJ ltI a i ys) (fun q=>[(7,vI q.2)]) (fun q=>[aR 0 1 (q.1.map vI)]) (fun q=>q.2) (ys,i) ⟨h1,oM,BZ _,rfl⟩ ?_ fun q hq=>?_
  ·exact .oA (U1 0) []
  obtain⟨zs,j⟩:=q;obtain⟨g1,g2,g3,g4⟩:=hq;dsimp only at g1 g2 g3 g4;by_cases hj:a<j
  ·obtain⟨j,rfl⟩:∃ k,j=k+1:=⟨j-1,oM⟩;have hwj:IntKind.i64.wrap (((j+1:Nat):Int)-1)=(j:Int):=by rw[AK _ oM];omega
   have hd:decide (((j+1:Nat):Int)>a)=true:=by simp;omega
   simp only[tZ,↓uU,simprocAttr,hwj,hd,Ax,qA (show j<zs.length by omega),qA (show j+1<zs.length by omega)];refine⟨⟨g1,oM,oM⟩,⟨g1,oM⟩,⟨g1,oM,oM⟩,⟨g1,oM⟩,?_⟩;refine C2.one (by trivial) (C1.im (zc (gd zs (j+1)) (gd zs j)) rF rF ?_);have hsl:(zs.set (j+1) (gd zs j)).length=zs.length:=Fy;simp only[tZ,↓uU,simprocAttr,hwj,Ax,qA (show j<zs.length by omega),qA (show j+1<zs.length by omega),zL,qX,jr,qA (show j<(zs.set (j+1) (gd zs j)).length by omega),js];have hin:insJ ltI a (j+1) zs=if a<j+1∧ltI (gd zs (j+1)) (gd zs j)=true then insJ ltI a j (swp zs (j+1) j) else zs:=rfl
   refine⟨kR,fun h6=>?_,fun h6=>?_⟩
   ·refine⟨⟨g1,oM,oM⟩,⟨g1,oM⟩,⟨g1,oM,oM⟩,⟨g1,oM⟩,⟨g1,oM,oM⟩,⟨g1,oM⟩,⟨oM,oM,oM⟩,⟨oM,oM⟩,kR,(swp zs (j+1) j,j),⟨by dsimp only;rw[zf];exact g1,by dsimp only;omega,by dsimp only;omega,?_⟩,by dsimp only;omega,?_⟩
    ·rw[← g4,hin,Aj ⟨hj,h6⟩]
    ·exact .oA (U1 0) []
   ·rw[hin,Aq (fun e=>by rw[h6] at e;exact absurd e.2 sMp)] at g4;have hwi:=qh (i:=i) oM;refine⟨(zs,i+1),⟨g1,by dsimp only;omega,by dsimp only;omega,?_⟩,by dsimp only;omega,?_⟩
    ·dsimp only;rw[g4];exact h4
    ·rw[hwi];exact .oA (U1 0) []
  ·have hd:decide ((j:Int)>a)=false:=by simp;omega
   have hwi:=qh (i:=i) oM;have hin:insJ ltI a j zs=zs:=by
    cases j with
    | zero=>rfl
    | succ j=>unfold insJ;rw[Aq (fun e=>hj e.1)]
   rw[hin] at g4;simp only[tZ,↓uU,simprocAttr,hd,hwi];refine C2.no (fun h=>h) ?_;simp only[tZ,↓uU,simprocAttr,hwi];refine⟨kR,(zs,i+1),⟨g1,by dsimp only;omega,by dsimp only;omega,?_⟩,by dsimp only;omega,?_⟩
   ·dsimp only;rw[g4];exact h4
   ·exact .oA (U1 0) []
 ·rw[show b-i=0 by omega,insF] at h4;rw[← h4];exact .oA (U1 0) []
theorem Qi (xs:List Int) (a b:Nat) (hab:a<b) (hb:b≤xs.length) (hl:xs.length<4611686018427387904) :
 Sp 271 [.asl 0 xs.length,vI a,vI b] [aR 0 1 (xs.map vI)] (.tup []) [aR 0 1 ((rvs (b-a) a (b-1) xs).map vI)]:=by
 have hw:IntKind.i64.wrap ((b:Int)-1)=((b-1:Nat):Int):=by rw[AK _ oM];omega
 refine sIr yS fun e _ hst=>?_;unfold zD;simp only[tZ,↓uU,simprocAttr,hw];refine qt mixm (α:=List Int×Nat×Nat×Nat) [6,7] (fun q=>q.1.length=xs.length∧q.2.2.1<b∧q.2.2.1+1≤q.2.1+q.2.2.2∧rvs q.2.2.2 q.2.1 q.2.2.1 q.1=rvs (b-a) a (b-1) xs) (fun q=>[(6,vI q.2.1),(7,vI q.2.2.1)]) (fun q=>[aR 0 1 (q.1.map vI)]) (fun q=>q.2.2.2) (xs,a,b-1,b-a) ⟨rfl,by dsimp only;omega,by dsimp only;omega,rfl⟩ ?_ fun q hq=>?_
 ·exact .oA (U1 0) []
 obtain⟨ys,i,j,f⟩:=q;obtain⟨h1,h2,h3,h4⟩:=hq;dsimp only at h1 h2 h3 h4;simp only[tZ,↓uU,simprocAttr,AZ,Ay];refine⟨fun h5=>?_,fun h5=>?_⟩
 ·obtain⟨f,rfl⟩:∃ k,f=k+1:=⟨f-1,oM⟩;have hwi:=qh (i:=i) oM;have hwj:IntKind.i64.wrap ((j:Int)-1)=((j-1:Nat):Int):=by rw[AK _ oM];omega
  have hsl:(ys.set i (gd ys j)).length=ys.length:=Fy;rw[rvs,Aj oM] at h4;simp only[tZ,↓uU,simprocAttr,hwi,hwj,Ax,qA (show j<ys.length by omega),qA (show i<ys.length by omega),zL,qX,jr,qA (show j<(ys.set i (gd ys j)).length by omega),js];refine⟨⟨h1,oM,oM⟩,⟨h1,oM⟩,⟨h1,oM,oM⟩,⟨h1,oM⟩,⟨h1,oM,oM⟩,⟨h1,oM⟩,⟨oM,oM,oM⟩,⟨oM,oM⟩,kR,(swp ys i j,i+1,j-1,f),⟨by dsimp only;rw[zf];exact h1,by dsimp only;omega,by dsimp only;omega,h4⟩,by dsimp only;omega,?_⟩;exact .oA (U1 0) []
 ·have h6:rvs f i j ys=ys:=by
   cases f with
   | zero=>rfl
   | succ f=>unfold rvs;rw[Aq oM]
  rw[← h4,h6];exact .oA (U1 0) []
theorem kJ (xs:List Int) (lo hi first:Nat) (hh:first+hi≤xs.length) (hlo:lo≤hi+1) (hl:xs.length<2305843009213693952) :
 Sp 278 [.asl 0 xs.length,vI lo,vI hi,vI first] [aR 0 1 (xs.map vI)] (.tup []) [aR 0 1 ((sift ltI first hi (hi+1) lo xs).map vI)]:=by
 refine sIr Zz fun e _ hst=>?_;unfold jb;refine sW ?_;refine qt mixm (α:=List Int×Nat×Nat) [8] (fun q=>q.1.length=xs.length∧q.2.1≤hi+1∧hi+1≤q.2.1+q.2.2∧sift ltI first hi q.2.2 q.2.1 q.1=sift ltI first hi (hi+1) lo xs) (fun q=>[(8,vI q.2.1)]) (fun q=>[aR 0 1 (q.1.map vI)]) (fun q=>q.2.2) (xs,lo,hi+1) ⟨rfl,hlo,by dsimp only;omega,rfl⟩ ?_ fun q hq=>?_
 ·exact .oA (U1 0) []
 obtain⟨ys,r,f⟩:=q;obtain⟨h1,h2,h3,h4⟩:=hq;dsimp only at h1 h2 h3 h4;have hw1:IntKind.i64.wrap (2*(r:Int))=2*(r:Int):=AK _ oM;have hw2:IntKind.i64.wrap (2*(r:Int)+1)=((2*r+1:Nat):Int):=by rw[AK _ oM];omega
 simp only[tZ,↓uU,simprocAttr,AZ,Ay,hw1,hw2];refine⟨fun h5=>?_,fun h5=>?_⟩
 ·have h6:sift ltI first hi f r ys=ys:=by
   cases f with
   | zero=>rfl
   | succ f=>unfold sift;rw[Aj oM]
  rw[← h4,h6];exact .oA (U1 0) []
 ·obtain⟨f,rfl⟩:∃ k,f=k+1:=⟨f-1,oM⟩;rw[sift,Aq oM] at h4;have hc:=jn7 ltI ys (first:=first) (hi:=hi) (r:=r) oM;have hw3:IntKind.i64.wrap (((2*r+1:Nat):Int)+1)=((2*r+2:Nat):Int):=by rw[AK _ oM];omega
  have hw4:IntKind.i64.wrap ((first:Int)+((2*r+1:Nat):Int))=((first+(2*r+1):Nat):Int):=by rw[AK _ oM];omega
  have hw5:IntKind.i64.wrap (((first+(2*r+1):Nat):Int)+1)=((first+(2*r+2):Nat):Int):=by rw[AK _ oM];omega
  have hw6:IntKind.i64.wrap ((first:Int)+(r:Int))=((first+r:Nat):Int):=by rw[AK _ oM];omega
  have hw7:IntKind.i64.wrap ((first:Int)+((2*r+2:Nat):Int))=((first+(2*r+2):Nat):Int):=by rw[AK _ oM];omega
  have k1:2*r+2<hi→ltI (gd ys (first+(2*r+1))) (gd ys (first+(2*r+2)))=true→kid ltI ys first hi r=2*r+2:=fun a b=>by rw[kid,Aj ⟨a,b⟩]
  have k2:¬ (2*r+2<hi∧ltI (gd ys (first+(2*r+1))) (gd ys (first+(2*r+2)))=true)→kid ltI ys first hi r=2*r+1:=fun a=>by rw[kid,Aq a]
  by_cases hk:2*r+2<hi
  ·have hd:(((2*r+2:Nat):Int)<(hi:Int))=True:=by simp;omega
   simp only[tZ,↓uU,simprocAttr,hw3,hw4,hw5,hd,Ax,qA (show first+(2*r+1)<ys.length by omega),qA (show first+(2*r+2)<ys.length by omega),qX];refine⟨⟨h1,oM,oM⟩,⟨h1,oM⟩,⟨h1,oM,oM⟩,⟨h1,oM⟩,?_⟩;refine C2.one (by trivial) (C1.im (zc (gd ys (first+(2*r+1))) (gd ys (first+(2*r+2)))) rF rF ?_);refine sW ?_;refine⟨kR,fun h6=>?_,fun h6=>?_⟩
   ·skip
    have hkc:kid ltI ys first hi r=2*r+2:=k1 hk h6
    rw[hkc] at h4 hc;have hcl:2*r+2<hi:=hc.2;have hsl:(ys.set (first+r) (gd ys (first+(2*r+2)))).length=ys.length:=Fy;simp only[tZ,↓uU,simprocAttr,hw3,hw7,hw6,Ax,qA (show first+r<ys.length by omega),qA (show first+(2*r+2)<ys.length by omega),qX];refine⟨⟨h1,oM,oM⟩,⟨h1,oM⟩,⟨h1,oM,oM⟩,⟨h1,oM⟩,?_⟩;refine C1.im (zc (gd ys (first+r)) (gd ys (first+(2*r+2)))) rF rF ?_;simp only[tZ,↓uU,simprocAttr,hw3,hw7,hw6,Ax,qA (show first+r<ys.length by omega),qA (show first+(2*r+2)<ys.length by omega),qX,zL,jr,qA (show first+(2*r+2)<(ys.set (first+r) (gd ys (first+(2*r+2)))).length by omega),js,Bx,Bz];refine⟨kR,fun h7=>?_,fun h7=>?_⟩
    ·rw[Aj h7] at h4;rw[← h4];exact .oA (U1 0) []
    ·rw[Aq (by rw[h7];simp)] at h4;refine⟨⟨h1,oM,oM⟩,⟨h1,oM⟩,⟨h1,oM,oM⟩,⟨h1,oM⟩,⟨h1,oM,oM⟩,⟨h1,oM⟩,⟨oM,oM,oM⟩,⟨oM,oM⟩,kR,(swp ys (first+r) (first+(2*r+2)),2*r+2,f),⟨by dsimp only;rw[zf];exact h1,by dsimp only;omega,by dsimp only;omega,h4⟩,by dsimp only;omega,?_⟩;exact .oA (U1 0) []
   ·skip
    have hkc:kid ltI ys first hi r=2*r+1:=k2 (fun e=>by rw[h6] at e;exact absurd e.2 sMp)
    rw[hkc] at h4 hc;have hcl:2*r+1<hi:=hc.2;have hsl:(ys.set (first+r) (gd ys (first+(2*r+1)))).length=ys.length:=Fy;simp only[tZ,↓uU,simprocAttr,hw4,hw6,Ax,qA (show first+r<ys.length by omega),qA (show first+(2*r+1)<ys.length by omega),qX];refine⟨⟨h1,oM,oM⟩,⟨h1,oM⟩,⟨h1,oM,oM⟩,⟨h1,oM⟩,?_⟩;refine C1.im (zc (gd ys (first+r)) (gd ys (first+(2*r+1)))) rF rF ?_;simp only[tZ,↓uU,simprocAttr,hw4,hw6,Ax,qA (show first+r<ys.length by omega),qA (show first+(2*r+1)<ys.length by omega),qX,zL,jr,qA (show first+(2*r+1)<(ys.set (first+r) (gd ys (first+(2*r+1)))).length by omega),js,Bx,Bz];refine⟨kR,fun h7=>?_,fun h7=>?_⟩
    ·rw[Aj h7] at h4;rw[← h4];exact .oA (U1 0) []
    ·rw[Aq (by rw[h7];simp)] at h4;refine⟨⟨h1,oM,oM⟩,⟨h1,oM⟩,⟨h1,oM,oM⟩,⟨h1,oM⟩,⟨h1,oM,oM⟩,⟨h1,oM⟩,⟨oM,oM,oM⟩,⟨oM,oM⟩,kR,(swp ys (first+r) (first+(2*r+1)),2*r+1,f),⟨by dsimp only;rw[zf];exact h1,by dsimp only;omega,by dsimp only;omega,h4⟩,by dsimp only;omega,?_⟩;exact .oA (U1 0) []
  ·have hd:(((2*r+2:Nat):Int)<(hi:Int))=False:=by simp;omega
   simp only[tZ,↓uU,simprocAttr,hw3,hd];refine C2.no (fun h=>h) ?_;refine sW ?_;refine⟨kR,?_⟩;have hkc:kid ltI ys first hi r=2*r+1:=k2 (fun e=>hk e.1)
   rw[hkc] at h4 hc;have hcl:2*r+1<hi:=hc.2;have hsl:(ys.set (first+r) (gd ys (first+(2*r+1)))).length=ys.length:=Fy;simp only[tZ,↓uU,simprocAttr,hw4,hw6,Ax,qA (show first+r<ys.length by omega),qA (show first+(2*r+1)<ys.length by omega),qX];refine⟨⟨h1,oM,oM⟩,⟨h1,oM⟩,⟨h1,oM,oM⟩,⟨h1,oM⟩,?_⟩;refine C1.im (zc (gd ys (first+r)) (gd ys (first+(2*r+1)))) rF rF ?_;simp only[tZ,↓uU,simprocAttr,hw4,hw6,Ax,qA (show first+r<ys.length by omega),qA (show first+(2*r+1)<ys.length by omega),qX,zL,jr,qA (show first+(2*r+1)<(ys.set (first+r) (gd ys (first+(2*r+1)))).length by omega),js,Bx,Bz];refine⟨kR,fun h7=>?_,fun h7=>?_⟩
   ·rw[Aj h7] at h4;rw[← h4];exact .oA (U1 0) []
   ·rw[Aq (by rw[h7];simp)] at h4;refine⟨⟨h1,oM,oM⟩,⟨h1,oM⟩,⟨h1,oM,oM⟩,⟨h1,oM⟩,⟨h1,oM,oM⟩,⟨h1,oM⟩,⟨oM,oM,oM⟩,⟨oM,oM⟩,kR,(swp ys (first+r) (first+(2*r+1)),2*r+1,f),⟨by dsimp only;rw[zf];exact h1,by dsimp only;omega,by dsimp only;omega,h4⟩,by dsimp only;omega,?_⟩;exact .oA (U1 0) []
theorem kK {st:Sto} {B:List Nat} (n:Nat) (ts:List T) (h:imAL ts=true):ltAs st (U1 0) B (.asl 0 n::ts) (.asl 0 n::ts):=⟨by simp [ltA,ltC,ltC0,TL.get],qz2 h⟩
theorem ZU (xs:List Int) (a b:Nat) (hab:a<b) (hb:b≤xs.length) (hl:xs.length<2305843009213693952) :
 Sp 268 [.asl 0 xs.length,vI a,vI b] [aR 0 1 (xs.map vI)] (.tup []) [aR 0 1 ((zj8 ltI xs a b).map vI)]:=by
 have hw1:IntKind.i64.wrap ((b:Int)-a)=((b-a:Nat):Int):=by rw[AK _ oM];omega
 have hw2:IntKind.i64.wrap (((b-a:Nat):Int)-1)=((b-a-1:Nat):Int):=by rw[AK _ oM];omega
 have hw3:IntKind.i64.wrap ((((b-a-1:Nat):Int)).tdiv 2)=(((b-a-1) / 2:Nat):Int):=by rw[Int.tdiv_eq_ediv_of_nonneg oM,AK _ oM];omega
 refine sIr Zx fun e _ hst=>?_;unfold ja;simp only[tZ,↓uU,simprocAttr,hw1,hw2,hw3];refine qt mixm (α:=List Int×Nat) [9] (fun q=>q.1.length=xs.length∧q.2≤(b-a-1) / 2+1∧hB ltI a (b-a) q.2 q.1=hB ltI a (b-a) ((b-a-1) / 2+1) xs) (fun q=>[(9,vI ((q.2:Int)-1))]) (fun q=>[aR 0 1 (q.1.map vI)]) (fun q=>q.2) (xs,(b-a-1) / 2+1) ⟨rfl,BZ _,rfl⟩ ?_ fun q hq=>?_
 ·have e0:((((b-a-1) / 2+1:Nat):Int)-1)=(((b-a-1) / 2:Nat):Int):=by omega
  dsimp only;rw[e0];exact .oA (U1 0) []
 obtain⟨ys,k⟩:=q;obtain⟨h1,h2,h3⟩:=hq;dsimp only at h1 h2 h3;simp only[tZ,↓uU,simprocAttr,AZ,Ay];refine⟨fun h5=>?_,fun h5=>?_⟩
 ·obtain⟨k,rfl⟩:∃ j,k=j+1:=⟨k-1,oM⟩;have e1:(((k+1:Nat):Int)-1)=(k:Int):=by omega
  have e2:IntKind.i64.wrap ((k:Int)-1)=(k:Int)-1:=AK _ oM;have h6:=kJ ys k (b-a) a oM oM oM;rw[hB] at h3;have hsl:=(ql5 ltI (first:=a) (hi:=b-a) (b-a+1) k ys oM).len;simp only[tZ,↓uU,simprocAttr,e1];refine C1.upd 0 1 _ _ h6 rF (by apply qw;intro _;exact⟨rfl,rfl⟩) (by apply qw;intro _;exact⟨rfl,rfl⟩) (by rw[h1];exact kK _ _ rF) rF ?_;simp only[tZ,↓uU,simprocAttr,e2];refine⟨(sift ltI a (b-a) (b-a+1) k ys,k),⟨by dsimp only;rw[hsl];exact h1,by dsimp only;omega,h3⟩,by dsimp only;omega,?_⟩;exact .oA (U1 0) []
 ·obtain rfl:k=0:=by omega
  rw[hB] at h3;have hsl:=(jy9 ltI (first:=a) (hi:=b-a) ((b-a-1) / 2+1) xs oM).len;simp only[tZ,↓uU,simprocAttr,hw1,hw2];refine qt mixm (α:=List Int×Nat) [10] (fun q=>q.1.length=xs.length∧q.2≤b-a∧hS ltI a q.2 q.1=hS ltI a (b-a) ys) (fun q=>[(10,vI ((q.2:Int)-1))]) (fun q=>[aR 0 1 (q.1.map vI)]) (fun q=>q.2) (ys,b-a) ⟨h1,BZ _,rfl⟩ ?_ fun q hq=>?_
  ·have e0:(((b-a:Nat):Int)-1)=((b-a-1:Nat):Int):=by omega
   dsimp only;rw[e0];exact .oA (U1 0) []
  obtain⟨zs,k⟩:=q;obtain⟨g1,g2,g3⟩:=hq;dsimp only at g1 g2 g3;simp only[tZ,↓uU,simprocAttr,AZ,Ay];refine⟨fun h5=>?_,fun h5=>?_⟩
  ·obtain⟨k,rfl⟩:∃ j,k=j+1:=⟨k-1,oM⟩;have e1:(((k+1:Nat):Int)-1)=(k:Int):=by omega
   have e2:IntKind.i64.wrap ((k:Int)-1)=(k:Int)-1:=AK _ oM;have e3:IntKind.i64.wrap ((a:Int)+(k:Int))=((a+k:Nat):Int):=by rw[AK _ oM];omega
   rw[hS] at g3;have hsw:=zf zs a (a+k);have h6:=kJ (swp zs a (a+k)) 0 k a oM oM oM;have hsl:=(ql5 ltI (first:=a) (hi:=k) (k+1) 0 (swp zs a (a+k)) oM).len;have hsl2:(zs.set a (gd zs (a+k))).length=zs.length:=Fy;simp only[tZ,↓uU,simprocAttr,e1,e3,Ax,qA (show a<zs.length by omega),qA (show a+k<zs.length by omega),zL,qX,jr,qA (show a+k<(zs.set a (gd zs (a+k))).length by omega),js];refine⟨⟨g1,oM,oM⟩,⟨g1,oM⟩,⟨g1,oM,oM⟩,⟨g1,oM⟩,⟨g1,oM,oM⟩,⟨g1,oM⟩,⟨oM,oM,oM⟩,⟨oM,oM⟩,kR,?_⟩;refine C1.upd 0 1 _ _ h6 rF (by apply qw;intro _;exact⟨rfl,rfl⟩) (by apply qw;intro _;exact⟨rfl,rfl⟩) (by rw[hsw,g1];exact kK _ _ rF) rF ?_;simp only[tZ,↓uU,simprocAttr,e2];refine⟨(sift ltI a k (k+1) 0 (swp zs a (a+k)),k),⟨by dsimp only;rw[hsl,hsw];exact g1,by dsimp only;omega,g3⟩,by dsimp only;omega,?_⟩;exact .oA (U1 0) []
  ·obtain rfl:k=0:=by omega
   rw[hS] at g3;have h7:zs=zj8 ltI xs a b:=by rw[g3,h3,zj8]
   rw[h7];exact .oA (U1 0) []
theorem ZD (xs:List Int) (a b pv:Nat) (hab:a+1<b) (hp1:a≤pv) (hp2:pv<b) (hb:b≤xs.length) (hl:xs.length<2305843009213693952) :
 Sp 274 [.asl 0 xs.length,vI a,vI b,vI pv] [aR 0 1 (xs.map vI)] (.tup [vI (wO ltI xs a b pv).2,vB (flO ltI xs a b pv)]) [aR 0 1 ((wO ltI xs a b pv).1.map vI)]:=by
 have hw1:IntKind.i64.wrap ((a:Int)+1)=((a+1:Nat):Int):=qh oM;have hw2:IntKind.i64.wrap ((b:Int)-1)=((b-1:Nat):Int):=by rw[AK _ oM];omega
 have hsl:(xs.set a (gd xs pv)).length=xs.length:=Fy;have hgw:gd (swp xs a pv) a=gd xs pv:=by
  rw[QQ oM oM];by_cases h:a=pv
  ·subst h;rw[Aj rfl]
  ·rw[Aq h,Aj rfl]
 refine sIr QS fun e _ hst=>?_;unfold zV;simp only[tZ,↓uU,simprocAttr,hw1,hw2,Ax,qA (show a<xs.length by omega),qA (show pv<xs.length by omega),zL,qX,jr,qA (show pv<(xs.set a (gd xs pv)).length by omega),js];refine⟨oM,oM,oM,oM,oM,oM,oM,oM,kR,?_⟩;have hys:=zf xs a pv;generalize hYS:swp xs a pv=ys at *
 refine qt mixm (α:=Nat) [10] (fun i=>a+1≤i∧i≤(b-1)+1∧up (fun v=>ltI v (gd xs pv)) (b-1) ys ((b-1)+1-i) i=up (fun v=>ltI v (gd xs pv)) (b-1) ys ((b-1)+1-(a+1)) (a+1)) (fun i=>[(10,vI i)]) (fun i=>[aR 0 1 (ys.map vI)]) (fun i=>(b-1)+1-i) (a+1) ⟨BZ _,oM,rfl⟩ ?_ fun i hi=>?_
 ·exact .oA (U1 0) []
 obtain⟨hu1,hu2,hu3⟩:=hi;have hwu:=qh (i:=i) oM;simp only[tZ,↓uU,simprocAttr,Ax,qA (show a<ys.length by omega),qX,hgw];refine⟨fun h=>by have:=of_decide_eq_true h;omega,fun h=>by have:=of_decide_eq_true h;omega,fun h=>by have:=of_decide_eq_true h;omega,fun h=>by have:=of_decide_eq_true h;omega,?_⟩;refine C2.im (r:=vB (ltI (gd ys i) (gd xs pv))) (fun h=>by have:=of_decide_eq_true h;rw[qA (show i<ys.length by omega)];exact zc (gd ys i) (gd xs pv)) (fun h=>by have:=of_decide_eq_true h;rw[qA (show i<ys.length by omega)];rfl) rfl ?_;simp only[tZ,↓uU,simprocAttr,hwu];refine⟨kR,fun h5=>?_,fun h5=>?_⟩
 ·obtain⟨h5,h6⟩:=dand h5;refine⟨i+1,⟨oM,oM,by first | exact (So.up_step (p:=(fun v=>ltI v (gd xs pv))) oM h6).symm.trans hu3 | exact ((So.up_step (p:=(fun v=>ltI v (gd xs pv))) oM h6).symm.trans hu3).trans (by rw[show b-1+1-(a+1)=b-1-a by omega])⟩,oM,?_⟩;exact .oA (U1 0) []
 have hu5:=zy7 h5;have hu4:up (fun v=>ltI v (gd xs pv)) (b-1) ys ((b-1)+1-(a+1)) (a+1)=i:=hu3.symm.trans (zF8 _ (fun h=>hu5 ⟨oM,h.2⟩));clear h5 hu3;refine qt mixm (α:=Nat) [11,43] (fun j=>j≤(b-1)∧i≤j+1∧dn (fun v=>ltI v (gd xs pv)) i ys (j+1-i) j=dn (fun v=>ltI v (gd xs pv)) i ys ((b-1)+1-i) ((b-1))) (fun j=>[(11,vI j)]) (fun j=>[aR 0 1 (ys.map vI)]) (fun j=>j+1-i) ((b-1)) ⟨BZ _,oM,rfl⟩ ?_ fun j hj=>?_
 ·exact .oA (U1 0) []
 obtain⟨hd1,hd2,hd3⟩:=hj;have hwd:i≤j→IntKind.i64.wrap ((j:Int)-1)=((j-1:Nat):Int):=fun h=>by rw[AK _ oM];omega
 simp only[tZ,↓uU,simprocAttr,Ax,qA (show a<ys.length by omega),qX,hgw];refine⟨fun h=>by have:=of_decide_eq_true h;omega,fun h=>by have:=of_decide_eq_true h;omega,fun h=>by have:=of_decide_eq_true h;omega,fun h=>by have:=of_decide_eq_true h;omega,?_⟩;refine C2.im (r:=vB (ltI (gd ys j) (gd xs pv))) (fun h=>by have:=of_decide_eq_true h;rw[qA (show j<ys.length by omega)];exact zc (gd ys j) (gd xs pv)) (fun h=>by have:=of_decide_eq_true h;rw[qA (show j<ys.length by omega)];rfl) rfl ?_;refine sW ?_;refine⟨kR,fun h5=>?_,fun h5=>?_⟩
 ·obtain⟨h5,h6⟩:=dand h5;rw[Bx] at h6;rw[hwd oM];refine⟨j-1,⟨oM,oM,(zF9 (p:=(fun v=>ltI v (gd xs pv))) oM oM h6).symm.trans hd3⟩,oM,?_⟩;exact .oA (U1 0) []
 have hd5:=zy7 h5;have hd4:dn (fun v=>ltI v (gd xs pv)) i ys ((b-1)+1-i) ((b-1))=j:=hd3.symm.trans (zG0 _ (fun h=>hd5 ⟨oM,(by have h7:ltI (gd ys j) (gd xs pv)=false:=h.2;rw[h7];rfl)⟩));clear h5 hd3;simp only[tZ,↓uU,simprocAttr,AZ,Ay];have hfl:flO ltI xs a b pv=decide (j<i):=by rw[flO,hYS,hu4,hd4]
 refine⟨fun h5=>?_,fun h5=>?_⟩
 ·have hpo:wO ltI xs a b pv=(swp ys j a,j):=by
   obtain⟨f,rfl⟩:∃ f,b=f+1:=⟨b-1,oM⟩;rw[wO,hYS,prt,hu4,hd4,Aj oM]
  rw[hpo,hfl,Cx (show j<i by omega)];have hss:(ys.set j (gd ys a)).length=ys.length:=Fy;simp only[tZ,↓uU,simprocAttr,Ax,qA (show j<ys.length by omega),qA (show a<ys.length by omega),zL,qX,jr,qA (show a<(ys.set j (gd ys a)).length by omega),js];refine⟨oM,oM,oM,oM,oM,oM,oM,oM,kR,?_⟩;exact .oA (U1 0) []
 ·skip
  have hij:i<j:=by
   by_cases h:i=j
   ·exfalso;subst h
    cases hv:ltI (gd ys i) (gd xs pv) with
    | true=>exact hu5 ⟨oM,hv⟩
    | false=>exact hd5 ⟨oM,by rw[hv];rfl⟩
   ·omega
  rw[hfl,Cq (show ¬ j<i by omega)];have hpo:wO ltI xs a b pv=(swp (prt (fun v=>ltI v (gd xs pv)) (b-1) (swp ys i j) (i+1) (j-1)).1 (prt (fun v=>ltI v (gd xs pv)) (b-1) (swp ys i j) (i+1) (j-1)).2.2 a,(prt (fun v=>ltI v (gd xs pv)) (b-1) (swp ys i j) (i+1) (j-1)).2.2):=by
   obtain⟨f,rfl⟩:∃ f,b=f+1:=⟨b-1,oM⟩;rw[wO,hYS,prt,hu4,hd4,Aq oM];rfl
  have hwi:=qh (i:=i) oM;have hwj:IntKind.i64.wrap ((j:Int)-1)=((j-1:Nat):Int):=by rw[AK _ oM];omega
  have hss:(ys.set i (gd ys j)).length=ys.length:=Fy;simp only[tZ,↓uU,simprocAttr,Ax,qA (show i<ys.length by omega),qA (show j<ys.length by omega),zL,qX,jr,qA (show j<(ys.set i (gd ys j)).length by omega),js,hwi,hwj];refine⟨oM,oM,oM,oM,oM,oM,oM,oM,kR,?_⟩;have hyl:=zf ys i j;have hgy:gd (swp ys i j) a=gd xs pv:=by rw[QQ oM oM,Aq oM,Aq oM,hgw]
  refine qt mixm (α:=List Int×Nat×Nat×Nat) [10,11,65,60,43] (fun q=>q.1.length=xs.length∧gd q.1 a=gd xs pv∧a+1≤q.2.1∧q.2.1≤q.2.2.1+1∧q.2.2.1≤b-1∧q.2.2.1+1<q.2.1+q.2.2.2∧prt (fun v=>ltI v (gd xs pv)) q.2.2.2 q.1 q.2.1 q.2.2.1=prt (fun v=>ltI v (gd xs pv)) (b-1) (swp ys i j) (i+1) (j-1)) (fun q=>[(10,vI q.2.1),(11,vI q.2.2.1)]) (fun q=>[aR 0 1 (q.1.map vI)]) (fun q=>q.2.2.2) (swp ys i j,i+1,j-1,b-1) ⟨by dsimp only;omega,hgy,by dsimp only;omega,by dsimp only;omega,by dsimp only;omega,by dsimp only;omega,rfl⟩ ?_ fun q hq=>?_
  ·exact .oA (U1 0) []
  clear hu4 hd4 hu5 hd5 hij hu1 hu2 hd1 hd2 hgw hss;generalize prt (fun v=>ltI v (gd xs pv)) (b-1) (swp ys i j) (i+1) (j-1)=R at *
  obtain⟨zs,m,n,f⟩:=q;obtain⟨g1,g2,g3,g4,g5,g6,g7⟩:=hq;dsimp only at g1 g2 g3 g4 g5 g6 g7;dsimp only;refine sW ?_;refine qt mixm (α:=Nat) [10] (fun i=>m≤i∧i≤n+1∧up (fun v=>ltI v (gd xs pv)) n zs (n+1-i) i=up (fun v=>ltI v (gd xs pv)) n zs (n+1-(m)) (m)) (fun i=>[(10,vI i)]) (fun i=>[aR 0 1 (zs.map vI)]) (fun i=>n+1-i) (m) ⟨BZ _,oM,rfl⟩ ?_ fun i1 hi=>?_
  ·exact .oA (U1 0) []
  obtain⟨hu1,hu2,hu3⟩:=hi;have hwu:=qh (i:=i1) oM;simp only[tZ,↓uU,simprocAttr,Ax,qA (show a<zs.length by omega),qX,g2];refine⟨fun h=>by have:=of_decide_eq_true h;omega,fun h=>by have:=of_decide_eq_true h;omega,fun h=>by have:=of_decide_eq_true h;omega,fun h=>by have:=of_decide_eq_true h;omega,?_⟩;refine C2.im (r:=vB (ltI (gd zs i1) (gd xs pv))) (fun h=>by have:=of_decide_eq_true h;rw[qA (show i1<zs.length by omega)];exact zc (gd zs i1) (gd xs pv)) (fun h=>by have:=of_decide_eq_true h;rw[qA (show i1<zs.length by omega)];rfl) rfl ?_;simp only[tZ,↓uU,simprocAttr,hwu];refine⟨kR,fun h5=>?_,fun h5=>?_⟩
  ·obtain⟨h5,h6⟩:=dand h5;refine⟨i1+1,⟨oM,oM,(So.up_step (p:=(fun v=>ltI v (gd xs pv))) oM h6).symm.trans hu3⟩,oM,?_⟩;exact .oA (U1 0) []
  have hu5:=zy7 h5;have hu4:up (fun v=>ltI v (gd xs pv)) n zs (n+1-(m)) (m)=i1:=hu3.symm.trans (zF8 _ (fun h=>hu5 ⟨oM,h.2⟩));clear h5 hu3;refine qt mixm (α:=Nat) [11,112] (fun j=>j≤n∧i1≤j+1∧dn (fun v=>ltI v (gd xs pv)) i1 zs (j+1-i1) j=dn (fun v=>ltI v (gd xs pv)) i1 zs (n+1-i1) (n)) (fun j=>[(11,vI j)]) (fun j=>[aR 0 1 (zs.map vI)]) (fun j=>j+1-i1) (n) ⟨BZ _,oM,rfl⟩ ?_ fun j1 hj=>?_
  ·exact .oA (U1 0) []
  obtain⟨hd1,hd2,hd3⟩:=hj;have hwd:i1≤j1→IntKind.i64.wrap ((j1:Int)-1)=((j1-1:Nat):Int):=fun h=>by rw[AK _ oM];omega
  simp only[tZ,↓uU,simprocAttr,Ax,qA (show a<zs.length by omega),qX,g2];refine⟨fun h=>by have:=of_decide_eq_true h;omega,fun h=>by have:=of_decide_eq_true h;omega,fun h=>by have:=of_decide_eq_true h;omega,fun h=>by have:=of_decide_eq_true h;omega,?_⟩;refine C2.im (r:=vB (ltI (gd zs j1) (gd xs pv))) (fun h=>by have:=of_decide_eq_true h;rw[qA (show j1<zs.length by omega)];exact zc (gd zs j1) (gd xs pv)) (fun h=>by have:=of_decide_eq_true h;rw[qA (show j1<zs.length by omega)];rfl) rfl ?_;refine sW ?_;refine⟨kR,fun h5=>?_,fun h5=>?_⟩
  ·obtain⟨h5,h6⟩:=dand h5;rw[Bx] at h6;rw[hwd oM];refine⟨j1-1,⟨oM,oM,(zF9 (p:=(fun v=>ltI v (gd xs pv))) oM oM h6).symm.trans hd3⟩,oM,?_⟩;exact .oA (U1 0) []
  have hd5:=zy7 h5;have hd4:dn (fun v=>ltI v (gd xs pv)) i1 zs (n+1-i1) (n)=j1:=hd3.symm.trans (zG0 _ (fun h=>hd5 ⟨oM,(by have h7:ltI (gd zs j1) (gd xs pv)=false:=h.2;rw[h7];rfl)⟩));clear h5 hd3;simp only[tZ,↓uU,simprocAttr,AZ,Ay];obtain⟨f,rfl⟩:∃ k,f=k+1:=⟨f-1,oM⟩;rw[prt,hu4,hd4] at g7;refine⟨fun h5=>?_,fun h5=>?_⟩
  ·rw[Aj oM] at g7;have e1:R.1=zs:=by rw[← g7]
   have e2:R.2.2=j1:=by rw[← g7]
   rw[hpo,e1,e2];have hss:(zs.set j1 (gd zs a)).length=zs.length:=Fy;simp only[tZ,↓uU,simprocAttr,Ax,qA (show j1<zs.length by omega),qA (show a<zs.length by omega),zL,qX,jr,qA (show a<(zs.set j1 (gd zs a)).length by omega),js];refine⟨oM,oM,oM,oM,oM,oM,oM,oM,kR,?_⟩;exact .oA (U1 0) []
  ·rw[Aq oM] at g7;have hij:i1<j1:=by
    by_cases h:i1=j1
    ·exfalso;subst h
     cases hv:ltI (gd zs i1) (gd xs pv) with
     | true=>exact hu5 ⟨oM,hv⟩
     | false=>exact hd5 ⟨oM,by rw[hv];rfl⟩
    ·omega
   have hwi:=qh (i:=i1) oM;have hwj:IntKind.i64.wrap ((j1:Int)-1)=((j1-1:Nat):Int):=by rw[AK _ oM];omega
   have hss:(zs.set i1 (gd zs j1)).length=zs.length:=Fy;simp only[tZ,↓uU,simprocAttr,Ax,qA (show i1<zs.length by omega),qA (show j1<zs.length by omega),zL,qX,jr,qA (show j1<(zs.set i1 (gd zs j1)).length by omega),js,hwi,hwj];have hzl:=zf zs i1 j1;have hgz:gd (swp zs i1 j1) a=gd xs pv:=by rw[QQ oM oM,Aq oM,Aq oM,g2]
   refine⟨oM,oM,oM,oM,oM,oM,oM,oM,kR,(swp zs i1 j1,i1+1,j1-1,f),⟨by dsimp only;omega,hgz,by dsimp only;omega,by dsimp only;omega,by dsimp only;omega,by dsimp only;omega,g7⟩,by dsimp only;omega,?_⟩;exact .oA (U1 0) []
theorem yq (xs:List Int) (a b pv:Nat) (hab:a+1<b) (hp1:a≤pv) (hp2:pv<b) (hb:b≤xs.length) (hl:xs.length<2305843009213693952) :
 Sp 273 [.asl 0 xs.length,vI a,vI b,vI pv] [aR 0 1 (xs.map vI)] (vI (YN ltI xs a b pv).2) [aR 0 1 ((YN ltI xs a b pv).1.map vI)]:=by
 have hw1:IntKind.i64.wrap ((a:Int)+1)=((a+1:Nat):Int):=qh oM;have hw2:IntKind.i64.wrap ((b:Int)-1)=((b-1:Nat):Int):=by rw[AK _ oM];omega
 have hsl:(xs.set a (gd xs pv)).length=xs.length:=Fy;have hgw:gd (swp xs a pv) a=gd xs pv:=by
  rw[QQ oM oM];by_cases h:a=pv
  ·subst h;rw[Aj rfl]
  ·rw[Aq h,Aj rfl]
 refine sIr wZ fun e _ hst=>?_;unfold zz;simp only[tZ,↓uU,simprocAttr,hw1,hw2,Ax,qA (show a<xs.length by omega),qA (show pv<xs.length by omega),zL,qX,jr,qA (show pv<(xs.set a (gd xs pv)).length by omega),js];refine⟨oM,oM,oM,oM,oM,oM,oM,oM,kR,?_⟩;have hys:=zf xs a pv;have hpo:YN ltI xs a b pv=((prt (fun v=>!ltI (gd xs pv) v) b (swp xs a pv) (a+1) (b-1)).1,(prt (fun v=>!ltI (gd xs pv) v) b (swp xs a pv) (a+1) (b-1)).2.1):=rfl;generalize hYS:swp xs a pv=ys at *
 refine qt mixm (α:=List Int×Nat×Nat×Nat) [9,10] (fun q=>q.1.length=xs.length∧gd q.1 a=gd xs pv∧a+1≤q.2.1∧q.2.1≤q.2.2.1+1∧q.2.2.1≤b-1∧q.2.2.1+1<q.2.1+q.2.2.2∧prt (fun v=>!ltI (gd xs pv) v) q.2.2.2 q.1 q.2.1 q.2.2.1=prt (fun v=>!ltI (gd xs pv) v) b ys (a+1) (b-1)) (fun q=>[(9,vI q.2.1),(10,vI q.2.2.1)]) (fun q=>[aR 0 1 (q.1.map vI)]) (fun q=>q.2.2.2) (ys,a+1,b-1,b) ⟨by dsimp only;omega,hgw,by dsimp only;omega,by dsimp only;omega,by dsimp only;omega,by dsimp only;omega,rfl⟩ ?_ fun q hq=>?_
 ·exact .oA (U1 0) []
 clear hgw hYS;generalize prt (fun v=>!ltI (gd xs pv) v) b ys (a+1) (b-1)=R at *
 obtain⟨zs,m,n,f⟩:=q;obtain⟨g1,g2,g3,g4,g5,g6,g7⟩:=hq;dsimp only at g1 g2 g3 g4 g5 g6 g7;dsimp only;refine sW ?_;refine qt mixm (α:=Nat) [9] (fun i=>m≤i∧i≤n+1∧up (fun v=>!ltI (gd xs pv) v) n zs (n+1-i) i=up (fun v=>!ltI (gd xs pv) v) n zs (n+1-(m)) (m)) (fun i=>[(9,vI i)]) (fun i=>[aR 0 1 (zs.map vI)]) (fun i=>n+1-i) (m) ⟨BZ _,oM,rfl⟩ ?_ fun i1 hi=>?_
 ·exact .oA (U1 0) []
 obtain⟨hu1,hu2,hu3⟩:=hi;have hwu:=qh (i:=i1) oM;simp only[tZ,↓uU,simprocAttr,Ax,qA (show a<zs.length by omega),qX,g2];refine⟨fun h=>by have:=of_decide_eq_true h;omega,fun h=>by have:=of_decide_eq_true h;omega,fun h=>by have:=of_decide_eq_true h;omega,fun h=>by have:=of_decide_eq_true h;omega,?_⟩;refine C2.im (r:=vB (ltI (gd xs pv) (gd zs i1))) (fun h=>by have:=of_decide_eq_true h;rw[qA (show i1<zs.length by omega)];exact zc (gd xs pv) (gd zs i1)) (fun h=>by have:=of_decide_eq_true h;rw[qA (show i1<zs.length by omega)];rfl) rfl ?_;simp only[tZ,↓uU,simprocAttr,hwu];refine⟨kR,fun h5=>?_,fun h5=>?_⟩
 ·obtain⟨h5,h6⟩:=dand h5;refine⟨i1+1,⟨oM,oM,(So.up_step (p:=(fun v=>!ltI (gd xs pv) v)) oM h6).symm.trans hu3⟩,oM,?_⟩;exact .oA (U1 0) []
 have hu5:=zy7 h5;have hu4:up (fun v=>!ltI (gd xs pv) v) n zs (n+1-(m)) (m)=i1:=hu3.symm.trans (zF8 _ (fun h=>hu5 ⟨oM,h.2⟩));clear h5 hu3;refine qt mixm (α:=Nat) [10,43] (fun j=>j≤n∧i1≤j+1∧dn (fun v=>!ltI (gd xs pv) v) i1 zs (j+1-i1) j=dn (fun v=>!ltI (gd xs pv) v) i1 zs (n+1-i1) (n)) (fun j=>[(10,vI j)]) (fun j=>[aR 0 1 (zs.map vI)]) (fun j=>j+1-i1) (n) ⟨BZ _,oM,rfl⟩ ?_ fun j1 hj=>?_
 ·exact .oA (U1 0) []
 obtain⟨hd1,hd2,hd3⟩:=hj;have hwd:i1≤j1→IntKind.i64.wrap ((j1:Int)-1)=((j1-1:Nat):Int):=fun h=>by rw[AK _ oM];omega
 simp only[tZ,↓uU,simprocAttr,Ax,qA (show a<zs.length by omega),qX,g2];refine⟨fun h=>by have:=of_decide_eq_true h;omega,fun h=>by have:=of_decide_eq_true h;omega,fun h=>by have:=of_decide_eq_true h;omega,fun h=>by have:=of_decide_eq_true h;omega,?_⟩;refine C2.im (r:=vB (ltI (gd xs pv) (gd zs j1))) (fun h=>by have:=of_decide_eq_true h;rw[qA (show j1<zs.length by omega)];exact zc (gd xs pv) (gd zs j1)) (fun h=>by have:=of_decide_eq_true h;rw[qA (show j1<zs.length by omega)];rfl) rfl ?_;refine sW ?_;refine⟨kR,fun h5=>?_,fun h5=>?_⟩
 ·obtain⟨h5,h6⟩:=dand h5;rw[hwd oM];refine⟨j1-1,⟨oM,oM,(zF9 (p:=(fun v=>!ltI (gd xs pv) v)) oM oM (by show (!ltI (gd xs pv) (gd zs j1))=false;rw[h6];rfl)).symm.trans hd3⟩,oM,?_⟩;exact .oA (U1 0) []
 have hd5:=zy7 h5;have hd4:dn (fun v=>!ltI (gd xs pv) v) i1 zs (n+1-i1) (n)=j1:=hd3.symm.trans (zG0 _ (fun h=>hd5 ⟨oM,(by have h7:(!ltI (gd xs pv) (gd zs j1))=false:=h.2;simpa using h7)⟩));clear h5 hd3;simp only[tZ,↓uU,simprocAttr,AZ,Ay];obtain⟨f,rfl⟩:∃ k,f=k+1:=⟨f-1,oM⟩;rw[prt,hu4,hd4] at g7;refine⟨fun h5=>?_,fun h5=>?_⟩
 ·rw[Aj oM] at g7;have e1:R.1=zs:=by rw[← g7]
  have e2:R.2.1=i1:=by rw[← g7]
  rw[hpo,e1,e2];exact .oA (U1 0) []
 ·rw[Aq oM] at g7;have hij:i1<j1:=by
   by_cases h:i1=j1
   ·exfalso;subst h
    cases hv:ltI (gd xs pv) (gd zs i1) with
    | false=>exact hu5 ⟨oM,by rw[hv];rfl⟩
    | true=>exact hd5 ⟨oM,hv⟩
   ·omega
  have hwi:=qh (i:=i1) oM;have hwj:IntKind.i64.wrap ((j1:Int)-1)=((j1-1:Nat):Int):=by rw[AK _ oM];omega
  have hss:(zs.set i1 (gd zs j1)).length=zs.length:=Fy;simp only[tZ,↓uU,simprocAttr,Ax,qA (show i1<zs.length by omega),qA (show j1<zs.length by omega),zL,qX,jr,qA (show j1<(zs.set i1 (gd zs j1)).length by omega),js,hwi,hwj];have hzl:=zf zs i1 j1;have hgz:gd (swp zs i1 j1) a=gd xs pv:=by rw[QQ oM oM,Aq oM,Aq oM,g2]
  refine⟨oM,oM,oM,oM,oM,oM,oM,oM,kR,(swp zs i1 j1,i1+1,j1-1,f),⟨by dsimp only;omega,hgz,by dsimp only;omega,by dsimp only;omega,by dsimp only;omega,by dsimp only;omega,g7⟩,by dsimp only;omega,?_⟩;exact .oA (U1 0) []
theorem kM (xs:List Int) (a b:Nat) (hab:a<b) (hb:b≤xs.length) (hl:xs.length<2305843009213693952) :
 Sp 272 [.asl 0 xs.length,vI a,vI b] [aR 0 1 (xs.map vI)] (vB (pins ltI a b 5 (a+1) xs).2) [aR 0 1 ((pins ltI a b 5 (a+1) xs).1.map vI)]:=by
 have hw1:IntKind.i64.wrap ((a:Int)+1)=((a+1:Nat):Int):=qh oM;refine Qo [18] kF mixm sMp fun e _ hst=>qy8 ?_;unfold zq;simp only[Wf,List.contains_cons,List.contains_nil,Nat.reduceBEq,Bool.or_false,Bool.or_true,Bool.true_or,Bool.false_or,cond_true,cond_false];simp only[tZ,↓uU,simprocAttr,hw1];refine qt mixm (α:=List Int×Nat×Nat) [7,8] (fun q=>q.1.length=xs.length∧a<q.2.1∧q.2.1≤b∧q.2.2≤5∧pins ltI a b q.2.2 q.2.1 q.1=pins ltI a b 5 (a+1) xs) (fun q=>[(7,vI q.2.1),(8,vI (5-(q.2.2:Int)))]) (fun q=>[aR 0 1 (q.1.map vI)]) (fun q=>q.2.2) (xs,a+1,5) ⟨rfl,by dsimp only;omega,by dsimp only;omega,BZ _,rfl⟩ ?_ fun q hq=>?_
 ·exact .oA (U1 0) []
 obtain⟨ys,i,k⟩:=q;obtain⟨h1,h2,h3,h4,h5⟩:=hq;dsimp only at h1 h2 h3 h4 h5;simp only[tZ,↓uU,simprocAttr,AZ,Ay];refine⟨fun h6=>?_,fun h6=>?_⟩
 ·obtain⟨k,rfl⟩:∃ j,k=j+1:=⟨k-1,oM⟩;rw[pins] at h5;refine qt mixm (α:=Nat) [7,14] (fun m=>i≤m∧m≤b∧upA ltI b ys (b-m) m=upA ltI b ys (b-i) i) (fun m=>[(7,vI m)]) (fun m=>[aR 0 1 (ys.map vI)]) (fun m=>b-m) i ⟨BZ _,oM,rfl⟩ ?_ fun m hm=>?_
  ·exact .oA (U1 0) []
  obtain⟨g1,g2,g3⟩:=hm;have hwm:=qh (i:=m) oM;have hwp:IntKind.i64.wrap ((m:Int)-1)=((m-1:Nat):Int):=by rw[AK _ oM];omega
  simp only[tZ,↓uU,simprocAttr,hwp,Ax,qA (show m-1<ys.length by omega),qX];refine⟨fun h=>by have:=of_decide_eq_true h;omega,fun h=>by have:=of_decide_eq_true h;omega,fun h=>by omega,fun h=>by omega,?_⟩;refine C2.im (r:=vB (ltI (gd ys m) (gd ys (m-1)))) (fun h=>by have:=of_decide_eq_true h;rw[qA (show m<ys.length by omega)];exact zc (gd ys m) (gd ys (m-1))) (fun h=>by have:=of_decide_eq_true h;rw[qA (show m<ys.length by omega)];rfl) rfl ?_;simp only[tZ,↓uU,simprocAttr,hwm];refine⟨kR,fun h7=>?_,fun h7=>?_⟩
  ·obtain⟨h7,h8⟩:=dand h7;rw[Bx] at h8;refine⟨m+1,⟨oM,oM,(jz1 oM h8).symm.trans g3⟩,oM,?_⟩;exact .oA (U1 0) []
  have h8:=zy7 h7;rw[← g3,jz2 _ (fun h=>h8 ⟨oM,by have h9:ltI (gd ys m) (gd ys (m-1))=false:=h.2;rw[h9];rfl⟩)] at h5;clear h7 h8 g3;simp only[tZ,↓uU,simprocAttr,AZ,Ay];refine⟨fun h7=>?_,fun h7=>?_⟩
  ·have h7:=AY.1 h7;rw[Aj oM] at h5;rw[← h5];exact .oA (U1 0) []
  have h7:=Ak.1 h7;rw[Aq oM] at h5;have hwb:IntKind.i64.wrap ((b:Int)-a)=((b-a:Nat):Int):=by rw[AK _ oM];omega
  simp only[tZ,↓uU,simprocAttr,AZ,Ay,hwb];refine⟨fun h8=>?_,fun h8=>?_⟩
  ·rw[Aj oM] at h5;rw[← h5];exact .oA (U1 0) []
  rw[Aq oM] at h5;have hss:(ys.set m (gd ys (m-1))).length=ys.length:=Fy;have hwma:IntKind.i64.wrap ((m:Int)-a)=((m-a:Nat):Int):=by rw[AK _ oM];omega
  have hswl:=zf ys m (m-1);simp only[tZ,↓uU,simprocAttr,hwp,hwma,Ax,qA (show m<ys.length by omega),qA (show m-1<ys.length by omega),zL,qX,jr,qA (show m-1<(ys.set m (gd ys (m-1))).length by omega),js];refine⟨oM,oM,oM,oM,oM,oM,oM,oM,kR,?_⟩;generalize swp ys m (m-1)=zs at *
  have hpl:(pnsL ltI a m zs).length=xs.length:=by
   rw[pnsL];split
   ·rw[(qO7 ltI (a:=0) (b:=b) (m-1) zs oM oM oM).len];omega
   ·omega
  refine⟨fun h9=>?_,fun h9=>?_⟩
  rotate_left
  have hL:pnsL ltI a m zs=zs:=by rw[pnsL,Aq oM]
  refine W_le [(0,.asl 0 xs.length),(1,vI a),(2,vI b),(7,vI m),(8,vI (5-((k+1:Nat):Int)))] [aR 0 1 ((pnsL ltI a m zs).map vI)] ?_ ?_
  ·rw[hL];exact .oA (U1 0) []
  rotate_left
  have hL:pnsL ltI a m zs=insJ ltI 0 (m-1) zs:=by rw[pnsL,Aj oM]
  refine qt mixm (α:=List Int×Nat) [9,61] (fun q=>q.1.length=xs.length∧q.2≤m-1∧insJ ltI 0 q.2 q.1=insJ ltI 0 (m-1) zs) (fun q=>[(9,vI q.2)]) (fun q=>[aR 0 1 (q.1.map vI)]) (fun q=>q.2) (zs,m-1) ⟨by dsimp only;omega,BZ _,rfl⟩ ?_ fun q hq=>?_
  ·exact .oA (U1 0) []
  obtain⟨us,j⟩:=q;obtain⟨e1,e2,e3⟩:=hq;dsimp only at e1 e2 e3;simp only[tZ,↓uU,simprocAttr,AZ,Ay];refine⟨fun h10=>?_,fun h10=>?_⟩
  rotate_left
  obtain rfl:j=0:=by omega
  rw[insJ,← hL] at e3;refine W_le [(0,.asl 0 xs.length),(1,vI a),(2,vI b),(7,vI m),(8,vI (5-((k+1:Nat):Int)))] [aR 0 1 ((pnsL ltI a m zs).map vI)] ?_ ?_
  ·rw[← e3];exact .oA (U1 0) []
  rotate_right
  obtain⟨j,rfl⟩:∃ k,j=k+1:=⟨j-1,oM⟩;have hwj:IntKind.i64.wrap (((j+1:Nat):Int)-1)=(j:Int):=by rw[AK _ oM];omega
  rw[insJ] at e3;simp only[tZ,↓uU,simprocAttr,hwj,Ax,qA (show j<us.length by omega),qA (show j+1<us.length by omega),qX];refine⟨oM,oM,oM,oM,?_⟩;refine C1.im (zc (gd us (j+1)) (gd us j)) rF rF ?_;simp only[tZ,↓uU,simprocAttr,Bx,Bz];refine⟨kR,fun h11=>?_,fun h11=>?_⟩
  rotate_left
  ·rw[Aj ⟨oM,h11⟩] at e3;have hsu:(us.set (j+1) (gd us j)).length=us.length:=Fy;have hul:=zf us (j+1) j;simp only[tZ,↓uU,simprocAttr,hwj,Ax,qA (show j+1<us.length by omega),qA (show j<us.length by omega),zL,qX,jr,qA (show j<(us.set (j+1) (gd us j)).length by omega),js];refine⟨oM,oM,oM,oM,oM,oM,oM,oM,kR,(swp us (j+1) j,j),⟨by dsimp only;omega,by dsimp only;omega,e3⟩,by dsimp only;omega,?_⟩;exact .oA (U1 0) []
  rotate_right
  rw[Aq (fun e=>by rw[h11] at e;exact absurd e.2 sMp),← hL] at e3;refine W_le [(0,.asl 0 xs.length),(1,vI a),(2,vI b),(7,vI m),(8,vI (5-((k+1:Nat):Int)))] [aR 0 1 ((pnsL ltI a m zs).map vI)] ?_ ?_
  ·rw[← e3];exact .oA (U1 0) []
  all_goals clear hL
  all_goals generalize pnsL ltI a m zs=ps at *
  all_goals have hwbm:IntKind.i64.wrap ((b:Int)-m)=((b-m:Nat):Int):=by rw[AK _ oM];omega
  all_goals have hwk:IntKind.i64.wrap ((5:Int)-((k+1:Nat):Int)+1)=5-(k:Int):=by rw[AK _ oM];omega
  all_goals have hwm:=qh (i:=m) oM
  all_goals
   simp only[tZ,↓uU,simprocAttr,AZ,Ay,hwbm,hwk,hwm];refine⟨fun h9=>?_,fun h9=>?_⟩
   ·have hR:pnsR ltI b m ps=So.shR ltI b (b-(m+1)) (m+1) ps:=by rw[pnsR,Aj oM]
    refine qt mixm (α:=List Int×Nat) [10,98] (fun q=>q.1.length=xs.length∧m+1≤q.2∧q.2≤b∧So.shR ltI b (b-q.2) q.2 q.1=So.shR ltI b (b-(m+1)) (m+1) ps) (fun q=>[(10,vI q.2)]) (fun q=>[aR 0 1 (q.1.map vI)]) (fun q=>b-q.2) (ps,m+1) ⟨hpl,BZ _,by dsimp only;omega,rfl⟩ ?_ fun q hq=>?_
    ·exact .oA (U1 0) []
    obtain⟨vs,n⟩:=q;obtain⟨f1,f2,f3,f4⟩:=hq;dsimp only at f1 f2 f3 f4;rw[← hR] at f4;simp only[tZ,↓uU,simprocAttr,AZ,Ay];refine⟨fun h12=>?_,fun h12=>?_⟩
    ·have hwn:IntKind.i64.wrap ((n:Int)-1)=((n-1:Nat):Int):=by rw[AK _ oM];omega
     have hwn1:=qh (i:=n) oM;rw[show b-n=(b-(n+1))+1 by omega,So.shR] at f4;simp only[tZ,↓uU,simprocAttr,hwn,hwn1,hwk,Ax,qA (show n<vs.length by omega),qA (show n-1<vs.length by omega),qX];refine⟨oM,oM,oM,oM,?_⟩;refine C1.im (zc (gd vs n) (gd vs (n-1))) rF rF ?_;simp only[tZ,↓uU,simprocAttr,Bx,Bz];refine⟨kR,fun h13=>?_,fun h13=>?_⟩
     ·rw[Aq (fun e=>by rw[h13] at e;exact absurd e.2 sMp)] at f4;rw[← f4] at h5;simp only[tZ,↓uU,simprocAttr,hwk];refine⟨(vs,m,k),⟨by dsimp only;omega,by dsimp only;omega,by dsimp only;omega,by dsimp only;omega,h5⟩,by dsimp only;omega,?_⟩;exact .oA (U1 0) []
     ·rw[Aj ⟨oM,h13⟩] at f4;have hsu:(vs.set n (gd vs (n-1))).length=vs.length:=Fy;have hul:=zf vs n (n-1);simp only[tZ,↓uU,simprocAttr,hwn,hwn1,Ax,qA (show n<vs.length by omega),qA (show n-1<vs.length by omega),zL,qX,jr,qA (show n-1<(vs.set n (gd vs (n-1))).length by omega),js];refine⟨oM,oM,oM,oM,oM,oM,oM,oM,kR,(swp vs n (n-1),n+1),⟨by dsimp only;omega,by dsimp only;omega,by dsimp only;omega,f4.trans hR⟩,by dsimp only;omega,?_⟩;exact .oA (U1 0) []
    ·obtain rfl:n=b:=by omega
     rw[Nat.sub_self,So.shR] at f4;rw[← f4] at h5;simp only[tZ,↓uU,simprocAttr,hwk];refine⟨(vs,m,k),⟨by dsimp only;omega,by dsimp only;omega,by dsimp only;omega,by dsimp only;omega,h5⟩,by dsimp only;omega,?_⟩;exact .oA (U1 0) []
   ·have hR:pnsR ltI b m ps=ps:=by rw[pnsR,Aq oM]
    rw[hR] at h5;refine⟨(ps,m,k),⟨by dsimp only;omega,by dsimp only;omega,by dsimp only;omega,by dsimp only;omega,h5⟩,by dsimp only;omega,?_⟩;exact .oA (U1 0) []
 ·obtain rfl:k=0:=by omega
  rw[pins] at h5;rw[← h5];exact .oA (U1 0) []
def JX (xs:List Int) (q:Nat×Nat×Nat):Nat×Nat×Nat:=if ltI (gd xs q.2.1) (gd xs q.1)=true then (q.2.1,q.1,q.2.2+1) else q
theorem jw (xs:List Int) (a b c:Nat) (ha:a<xs.length) (hb:b<xs.length) (hc:c<1000) :
 Sp 281 [.asl 0 xs.length,vI a,vI b,.ptr 1 1 0 0] [aR 0 1 (xs.map vI),aR 1 1 [vI c]] (.tup [vI (JX xs (a,b,c)).1,vI (JX xs (a,b,c)).2.1]) [aR 0 1 (xs.map vI),aR 1 1 [vI (JX xs (a,b,c)).2.2]]:=by
 have hwc:=qh (i:=c) oM;refine sIr JD fun e _ hst=>?_;unfold jo;simp only[tZ,↓uU,simprocAttr,Ax,qA ha,qA hb,qX];refine⟨oM,oM,oM,oM,?_⟩;refine C1.im (zc (gd xs b) (gd xs a)) rF rF ?_;simp only[tZ,↓uU,simprocAttr,hwc];refine⟨kR,fun h=>?_,fun h=>?_⟩
 ·simp only[JX,Aj h];exact .oA (U2 0 1) []
 ·simp only[JX,h];exact .oA (U2 0 1) []
theorem qD5 (xs:List Int) {a b c n:Nat} (ha:a<n) (hb:b<n):(JX xs (a,b,c)).1<n∧(JX xs (a,b,c)).2.1<n∧(JX xs (a,b,c)).2.2≤c+1:=by
 unfold JX;split
 ·exact⟨hb,ha,BZ _⟩
 ·exact⟨ha,hb,Nat.le_succ _⟩
theorem qV1 (xs:List Int) {a b c n:Nat} (ha:n≤a) (hb:n≤b):n≤(JX xs (a,b,c)).1∧n≤(JX xs (a,b,c)).2.1:=by
 unfold JX;split
 ·exact⟨hb,ha⟩
 ·exact⟨ha,hb⟩
theorem Qe {st:Sto} {B:List Nat} {i1:Nat} (n:Nat) (ts:List T) (h:imAL ts=true):ltAs st [uI 0,(1,some i1)] B (.asl 0 n::(ts++[.ptr i1 1 0 0])) (.asl 0 n::(ts++[.ptr 1 1 0 0])):=by
 refine⟨by simp [ltA,ltC,ltC0,TL.get],?_⟩
 induction ts with
 | nil=>exact⟨by simp [ltA,ltC,ltC0,TL.get],trivial⟩
 | cons t ts ih=>
   simp only[imAL,Bq] at h;exact⟨YF h.1,ih h.2⟩
theorem jx (xs:List Int) (a b c n lo hi:Nat) (hh:hi≤xs.length) (ha:a<hi) (hb:b<hi) (hc:c<hi) (la:lo≤a) (lb:lo≤b) (lc:lo≤c) (hn:n<900) :
 ∃ m k:Nat,(m<hi∧lo≤m∧k≤n+3)∧Sp 280 [.asl 0 xs.length,vI a,vI b,vI c,.ptr 1 1 0 0] [aR 0 1 (xs.map vI),aR 1 1 [vI n]] (vI m) [aR 0 1 (xs.map vI),aR 1 1 [vI k]]:=by
 have s1:=jw xs a b n oM oM oM;obtain⟨u1,u2,u3⟩:=qD5 xs (c:=n) ha hb;obtain⟨l1,l2⟩:=qV1 xs (c:=n) la lb;generalize JX xs (a,b,n)=p at *
 obtain⟨a1,b1,n1⟩:=p;dsimp only at u1 u2 u3 l1 l2 s1;have s2:=jw xs b1 c n1 oM oM oM;obtain⟨v1,v2,v3⟩:=qD5 xs (c:=n1) u2 hc;obtain⟨k1,k2⟩:=qV1 xs (c:=n1) l2 lc;generalize JX xs (b1,c,n1)=p at *
 obtain⟨b2,c2,n2⟩:=p;dsimp only at v1 v2 v3 k1 k2 s2;have s3:=jw xs a1 b2 n2 oM oM oM;obtain⟨w1,w2,w3⟩:=qD5 xs (c:=n2) u1 v1;obtain⟨j1,j2⟩:=qV1 xs (c:=n2) l1 k1;generalize JX xs (a1,b2,n2)=p at *
 obtain⟨a3,b3,n3⟩:=p;dsimp only at w1 w2 w3 j1 j2 s3;refine⟨b3,n3,⟨w2,j2,oM⟩,?_⟩;refine sIr JB fun e _ hst=>?_;unfold jn;refine sW ?_;refine C1.upd2 1 1 1 _ _ _ _ s1 rfl rfl sMp (by apply qw;intro _;exact⟨rfl,rfl⟩) (by apply qw;intro _;exact⟨rfl,rfl⟩) (qQ ⟨rfl,rfl⟩ qR) (qQ ⟨rfl,rfl⟩ qR) (Qe _ [vI a,vI b] rF) rF ?_;refine sW ?_;refine C1.upd2 1 1 1 _ _ _ _ s2 rfl rfl sMp (by apply qw;intro _;exact⟨rfl,rfl⟩) (by apply qw;intro _;exact⟨rfl,rfl⟩) (qQ ⟨rfl,rfl⟩ qR) (qQ ⟨rfl,rfl⟩ qR) (Qe _ [vI b1,vI c] rF) rF ?_;refine sW ?_;refine C1.upd2 1 1 1 _ _ _ _ s3 rfl rfl sMp (by apply qw;intro _;exact⟨rfl,rfl⟩) (by apply qw;intro _;exact⟨rfl,rfl⟩) (qQ ⟨rfl,rfl⟩ qR) (qQ ⟨rfl,rfl⟩ qR) (Qe _ [vI a1,vI b2] rF) rF ?_;refine sW ?_;exact .oA (U2 0 1) []
theorem zC (xs:List Int) (a n lo hi:Nat) (hh:hi≤xs.length) (ha:a+1<hi) (la:lo<a) (hn:n<900) (hl:xs.length<2305843009213693952) :
 ∃ m k:Nat,(m<hi∧lo≤m∧k≤n+3)∧Sp 279 [.asl 0 xs.length,vI a,.ptr 1 1 0 0] [aR 0 1 (xs.map vI),aR 1 1 [vI n]] (vI m) [aR 0 1 (xs.map vI),aR 1 1 [vI k]]:=by
 obtain⟨m,k,hm,hs⟩:=jx xs (a-1) a (a+1) n lo hi hh oM oM ha oM oM oM hn;refine⟨m,k,hm,?_⟩;have hwa:=qh (i:=a) oM;have hwp:IntKind.i64.wrap ((a:Int)-1)=((a-1:Nat):Int):=by rw[AK _ oM];omega
 refine sIr yb fun e _ hst=>?_;unfold zA;simp only[tZ,↓uU,simprocAttr,hwa,hwp];refine C1.upd2 1 1 1 _ _ _ _ hs rfl rfl sMp (by apply qw;intro _;exact⟨rfl,rfl⟩) (by apply qw;intro _;exact⟨rfl,rfl⟩) (qQ ⟨rfl,rfl⟩ qR) (qQ ⟨rfl,rfl⟩ qR) (Qe _ [vI (a-1:Nat),vI a,vI (a+1:Nat)] rF) rF ?_;refine sW ?_;exact .oA (U2 0 1) []
theorem zQ (xs:List Int) (a b:Nat) (hab:a+12<b) (hb:b≤xs.length) (hl:xs.length<2305843009213693952) :
 ∃ q:Nat×Int,(a≤q.1∧q.1<b)∧Sp 270 [.asl 0 xs.length,vI a,vI b] [aR 0 1 (xs.map vI)] (.tup [vI q.1,vI q.2]) [aR 0 1 (xs.map vI)]:=by
 have hw1:IntKind.i64.wrap ((b:Int)-a)=((b-a:Nat):Int):=by rw[AK _ oM];omega
 have hw2:IntKind.i64.wrap (((b-a:Nat):Int).tdiv 4)=(((b-a) / 4:Nat):Int):=by rw[Int.tdiv_eq_ediv_of_nonneg oM,AK _ oM];omega
 have he1:IntKind.i64.wrap ((((b-a) / 4:Nat):Int)*1)=(((b-a) / 4:Nat):Int):=by rw[AK _ oM];omega
 have he2:IntKind.i64.wrap ((((b-a) / 4:Nat):Int)*2)=((2*((b-a) / 4):Nat):Int):=by rw[AK _ oM];omega
 have he3:IntKind.i64.wrap ((((b-a) / 4:Nat):Int)*3)=((3*((b-a) / 4):Nat):Int):=by rw[AK _ oM];omega
 have ha1:IntKind.i64.wrap ((a:Int)+(((b-a) / 4:Nat):Int))=((a+(b-a) / 4:Nat):Int):=by rw[AK _ oM];omega
 have ha2:IntKind.i64.wrap ((a:Int)+((2*((b-a) / 4):Nat):Int))=((a+2*((b-a) / 4):Nat):Int):=by rw[AK _ oM];omega
 have ha3:IntKind.i64.wrap ((a:Int)+((3*((b-a) / 4):Nat):Int))=((a+3*((b-a) / 4):Nat):Int):=by rw[AK _ oM];omega
 have h8:decide (((b-a:Nat):Int)≥8)=true:=Cx oM;have g1:a≤a+(b-a) / 4∧a+(b-a) / 4<b:=by omega
 have g2:a≤a+2*((b-a) / 4)∧a+2*((b-a) / 4)<b:=by omega
 have g3:a≤a+3*((b-a) / 4)∧a+3*((b-a) / 4)<b:=by omega
 have g4:50≤b-a→a<a+(b-a) / 4∧a+(b-a) / 4+1<b∧a<a+2*((b-a) / 4)∧a+2*((b-a) / 4)+1<b∧a<a+3*((b-a) / 4)∧a+3*((b-a) / 4)+1<b:=by omega
 generalize a+(b-a) / 4=p1 at *
 generalize a+2*((b-a) / 4)=p2 at *
 generalize a+3*((b-a) / 4)=p3 at *
 by_cases h50:50≤b-a
 ·have d50:decide (((b-a:Nat):Int)≥50)=true:=Cx oM;obtain⟨q1,q2,q3,q4,q5,q6⟩:=g4 h50;obtain⟨m1,n1,⟨r1,r2,r3⟩,s1⟩:=zC xs p1 0 a b hb q2 q1 oM hl;obtain⟨m2,n2,⟨r4,r5,r6⟩,s2⟩:=zC xs p2 n1 a b hb q4 q3 oM hl;obtain⟨m3,n3,⟨r7,r8,r9⟩,s3⟩:=zC xs p3 n2 a b hb q6 q5 oM hl;obtain⟨m,n,⟨t1,t2,t3⟩,s4⟩:=jx xs m1 m2 m3 n3 a b hb r1 r4 r7 r2 r5 r8 oM;refine⟨(m,if n=0 then 1 else if n=12 then 2 else 0),⟨t2,t1⟩,?_⟩;refine sIr jK fun e _ hst=>?_;unfold zt;simp only[tZ,↓uU,simprocAttr,hw1,hw2,he1,he2,he3,ha1,ha2,ha3,h8,d50];refine C1.upd2 12288 1 1 _ _ _ _ s1 rfl rfl sMp (by apply qw;intro _;exact⟨rfl,rfl⟩) (by apply qw;intro _;exact⟨rfl,rfl⟩) (qQ ⟨rfl,rfl⟩ qR) (qQ ⟨rfl,rfl⟩ qR) (Qe _ [vI p1] rF) rF ?_;refine sW ?_;refine C1.upd2 12288 1 1 _ _ _ _ s2 rfl rfl sMp (by apply qw;intro _;exact⟨rfl,rfl⟩) (by apply qw;intro _;exact⟨rfl,rfl⟩) (qQ ⟨rfl,rfl⟩ qR) (qQ ⟨rfl,rfl⟩ qR) (Qe _ [vI p2] rF) rF ?_;refine sW ?_;refine C1.upd2 12288 1 1 _ _ _ _ s3 rfl rfl sMp (by apply qw;intro _;exact⟨rfl,rfl⟩) (by apply qw;intro _;exact⟨rfl,rfl⟩) (qQ ⟨rfl,rfl⟩ qR) (qQ ⟨rfl,rfl⟩ qR) (Qe _ [vI p3] rF) rF ?_;refine sW ?_;refine C1.upd2 12288 1 1 _ _ _ _ s4 rfl rfl sMp (by apply qw;intro _;exact⟨rfl,rfl⟩) (by apply qw;intro _;exact⟨rfl,rfl⟩) (qQ ⟨rfl,rfl⟩ qR) (qQ ⟨rfl,rfl⟩ qR) (Qe _ [vI m1,vI m2,vI m3] rF) rF ?_;refine sW ?_;refine⟨fun h=>?_,fun h=>?_⟩
  ·rw[Aj (by have:=AY.1 h;omega)];exact .oA (U1 0) []
  ·have hn0:¬ n=0:=by have:=Ak.1 h;omega
   rw[Aq hn0];refine⟨fun h=>?_,fun h=>?_⟩
   ·rw[Aj (by have:=AY.1 h;omega)];exact .oA (U1 0) []
   ·rw[Aq (by have:=Ak.1 h;omega)];exact .oA (U1 0) []
 ·have d50:decide (((b-a:Nat):Int)≥50)=false:=Cq oM;obtain⟨m,n,⟨t1,t2,t3⟩,s4⟩:=jx xs p1 p2 p3 0 a b hb g1.2 g2.2 g3.2 g1.1 g2.1 g3.1 oM;refine⟨(m,if n=0 then 1 else if n=12 then 2 else 0),⟨t2,t1⟩,?_⟩;refine sIr jK fun e _ hst=>?_;unfold zt;simp only[tZ,↓uU,simprocAttr,hw1,hw2,he1,he2,he3,ha1,ha2,ha3,h8,d50];refine C1.upd2 12288 1 1 _ _ _ _ s4 rfl rfl sMp (by apply qw;intro _;exact⟨rfl,rfl⟩) (by apply qw;intro _;exact⟨rfl,rfl⟩) (qQ ⟨rfl,rfl⟩ qR) (qQ ⟨rfl,rfl⟩ qR) (Qe _ [vI p1,vI p2,vI p3] rF) rF ?_;refine sW ?_;refine⟨fun h=>?_,fun h=>?_⟩
  ·rw[Aj (by have:=AY.1 h;omega)];exact .oA (U1 0) []
  ·have hn0:¬ n=0:=by have:=Ak.1 h;omega
   rw[Aq hn0];refine⟨fun h=>?_,fun h=>?_⟩
   ·rw[Aj (by have:=AY.1 h;omega)];exact .oA (U1 0) []
   ·rw[Aq (by have:=Ak.1 h;omega)];exact .oA (U1 0) []
theorem zr (xs:List Int) (a b:Nat) (hab:a≤b) (hb:b≤xs.length) (hl:xs.length<65536) :
 ∃ ys,Sw a b xs ys∧Sp 269 [.asl 0 xs.length,vI a,vI b] [aR 0 1 (xs.map vI)] (.tup []) [aR 0 1 (ys.map vI)]:=by
 have hw1:IntKind.i64.wrap ((b:Int)-a)=((b-a:Nat):Int):=by rw[AK _ oM];omega
 by_cases h8:8≤b-a
 ·obtain⟨p,⟨p1,p2⟩,hp⟩:=YA (b-a) oM oM;refine⟨bk a (b-a) p 3 (a+2*((b-a) / 4)-1) ((b-a:Nat):Int) xs,jW7 p1 p2 oM 3 _ _ xs oM oM hb,?_⟩;have d8:decide (((b-a:Nat):Int)≥8)=true:=Cx oM;have hu:IntKind.u64.wrap ((b-a:Nat):Int)=((b-a:Nat):Int):=by rw[IntKind.wrap_u64];omega
  have hw2:IntKind.i64.wrap (((b-a:Nat):Int).tdiv 4)=(((b-a) / 4:Nat):Int):=by rw[Int.tdiv_eq_ediv_of_nonneg oM,AK _ oM];omega
  have he2:IntKind.i64.wrap ((((b-a) / 4:Nat):Int)*2)=((2*((b-a) / 4):Nat):Int):=by rw[AK _ oM];omega
  have ha2:IntKind.i64.wrap ((a:Int)+((2*((b-a) / 4):Nat):Int))=((a+2*((b-a) / 4):Nat):Int):=by rw[AK _ oM];omega
  have ha3:IntKind.i64.wrap (((a+2*((b-a) / 4):Nat):Int)-1)=((a+2*((b-a) / 4)-1:Nat):Int):=by rw[AK _ oM];omega
  have ha4:IntKind.i64.wrap (((a+2*((b-a) / 4):Nat):Int)+1)=((a+2*((b-a) / 4)+1:Nat):Int):=qh oM;have hp1:IntKind.u64.wrap ((p:Int)-1)=(p:Int)-1:=by rw[IntKind.wrap_u64];omega
  have hj:a≤a+2*((b-a) / 4)-1∧a+2*((b-a) / 4)+1<b∧0<a+2*((b-a) / 4):=by omega
  refine sIr jt fun e _ hst=>?_;unfold zl;simp only[tZ,↓uU,simprocAttr,hw1,d8,hu];refine C1.im hp rF rF ?_;simp only[tZ,↓uU,simprocAttr,hw2,he2,ha2,ha3];generalize a+2*((b-a) / 4)=z at *
  refine qt mixm (α:=List Int×Nat×Int×Nat) [9] (fun q=>q.1.length=xs.length∧q.2.1+q.2.2.2=z+2∧q.2.2.2≤3∧bk a (b-a) p q.2.2.2 q.2.1 q.2.2.1 q.1=bk a (b-a) p 3 (z-1) ((b-a:Nat):Int) xs) (fun q=>[(9,vI q.2.1)]) (fun q=>[aR 0 1 (q.1.map vI),aR 12296 1 [vU64 q.2.2.1]]) (fun q=>q.2.2.2) (xs,z-1,((b-a:Nat):Int),3) ⟨rfl,by dsimp only;omega,BZ _,rfl⟩ ?_ fun q hq=>?_
  ·exact .oA (U2 0 12296) []
  obtain⟨ys,i,v,f⟩:=q;obtain⟨g1,g2,g3,g4⟩:=hq;dsimp only at g1 g2 g3 g4;simp only[tZ,↓uU,simprocAttr,AZ,Ay,hw2,he2,ha2,ha4];refine⟨fun h5=>?_,fun h5=>?_⟩
  ·obtain⟨f,rfl⟩:∃ k,f=k+1:=⟨f-1,oM⟩;rw[bk] at g4;have ho:=jK9 p1 p2 oM (rnd v);have hox:=Eq.refl (oth (b-a) p (rnd v));have han:=jK8 (rnd v) (m:=(p:Int)-1) oM oM;obtain⟨w,hwd⟩:∃ w:Nat,andI .u64 (rnd v) ((p:Int)-1)=(w:Int):=⟨_,(Int.toNat_of_nonneg han.1).symm⟩;rw[hwd] at han;rw[show oth (b-a) p (rnd v)=if b-a≤w then w-(b-a) else w by unfold oth;rw[hwd,Ax]] at hox ho g4;have hwv:IntKind.i64.wrap (w:Int)=(w:Int):=AK _ oM;have hwi:=qh (i:=i) oM;refine C1.upd 12296 1 _ _ (show Spc _ _ _ _ (vU64 (rnd v)) [aR 0 1 [vU64 (rnd v)]] from qb1 v) rF (qQ ⟨rfl,rfl⟩ qR) (qQ ⟨rfl,rfl⟩ qR) ⟨by simp [ltA,ltC,ltC0,TL.get],trivial⟩ rF ?_;have key:∀ o:Nat,o<b-a→IntKind.i64.wrap ((a:Int)+(o:Int))=((a+o:Nat):Int):=fun o h=>by rw[AK _ oM];omega
   simp only[tZ,↓uU,simprocAttr,AZ,Ay,hp1,hwd,hwv];refine⟨fun h6=>?_,fun h6=>?_⟩
   ·rw[Aj oM] at ho g4;have hws:IntKind.i64.wrap ((w:Int)-((b-a:Nat):Int))=((w-(b-a):Nat):Int):=by rw[AK _ oM];omega
    have hao:=key _ ho;generalize w-(b-a)=o at *
    have hss:(ys.set i (gd ys (a+o))).length=ys.length:=Fy;have hul:=zf ys i (a+o);simp only[tZ,↓uU,simprocAttr,hws,hao,hwi,Ax,qA (show i<ys.length by omega),qA (show a+o<ys.length by omega),zL,qX,jr,qA (show a+o<(ys.set i (gd ys (a+o))).length by omega),js];refine⟨oM,oM,oM,oM,oM,oM,oM,oM,kR,(swp ys i (a+o),i+1,rnd v,f),⟨by dsimp only;omega,by dsimp only;omega,by dsimp only;omega,g4⟩,by dsimp only;omega,?_⟩;exact .oA (U2 0 12296) []
   ·rw[Aq oM] at ho g4;have hao:=key _ ho;have hss:(ys.set i (gd ys (a+w))).length=ys.length:=Fy;have hul:=zf ys i (a+w);simp only[tZ,↓uU,simprocAttr,hao,hwi,Ax,qA (show i<ys.length by omega),qA (show a+w<ys.length by omega),zL,qX,jr,qA (show a+w<(ys.set i (gd ys (a+w))).length by omega),js];refine⟨oM,oM,oM,oM,oM,oM,oM,oM,kR,(swp ys i (a+w),i+1,rnd v,f),⟨by dsimp only;omega,by dsimp only;omega,by dsimp only;omega,g4⟩,by dsimp only;omega,?_⟩;exact .oA (U2 0 12296) []
  ·obtain rfl:f=0:=by omega
   rw[bk] at g4;rw[← g4];exact .oA (U1 0) []
 ·refine⟨xs,.refl xs,?_⟩;have d8:decide (((b-a:Nat):Int)≥8)=false:=Cq oM;refine sIr jt fun e _ hst=>?_;unfold zl;simp only[tZ,↓uU,simprocAttr,hw1,d8];exact .oA (U1 0) []
end Go.Proofs
