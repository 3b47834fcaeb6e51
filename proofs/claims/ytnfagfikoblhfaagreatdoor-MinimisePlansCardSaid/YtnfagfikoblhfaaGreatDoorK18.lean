/- A part of the proof: trees of Go values, short forms, contracts. -/
import Derived.Test.YtnfagfikoblhfaaGreatDoorK17
namespace Go.Proofs
open Go Go.TL
set_option maxRecDepth 4000
set_option maxHeartbeats 4000000
def d36:ByteArray:=⟨#[48,49,50,51,52,53,54,55,56,57,97,98,99,100,101,102,103,104,105,106,107,108,109,110,111,112,113,114,115,116,117,118,119,120,121,122]⟩
theorem zh0 {a b:ByteArray} (h:a.data.toList=b.data.toList):a=b:=by
 cases a;cases b;exact congrArg ByteArray.mk (Array.ext' h)
def dgS (n:Nat):ByteArray:=⟨#[dgt n]⟩
theorem jV2 (n:Nat) (h:n<10):d36.extract n (n+1)=dgS n:=by
 have:((List.range 10).all fun n=>(d36.extract n (n+1)).data.toList==(dgS n).data.toList)=true:=by decide +kernel
 exact zh0 (eq_of_beq (Bk.1 this n (Dk.2 h)))
theorem qv7 (c:UInt8) (n:Nat):(⟨#[c]⟩:ByteArray)++dgS n=⟨#[c,dgt n]⟩:=by
 apply zh0
 rw[ByteArray.toList_data_append]
 rfl
theorem jO9 (n:Nat) (h:n<10):Sp 238 [vI n] [] (vS (dgS n)) []:=by
 have h1:=qh (i:=n) oM;have z1:d36.size=36:=rfl;refine sIr KQ fun e _ hst=>?_;unfold jI;simp only[tZ,↓uU,simprocAttr,tD,h1,Ax];refine⟨fun h2=>?_,fun h2=>by omega⟩;refine⟨?_,?_⟩
 ·show (0≤(n:Int)∧(n:Int)≤((n+1:Nat):Int)∧((n+1:Nat):Int)≤(d36.size:Int));omega
 ·show yx [] (vS (d36.extract n (n+1))) [] (vS (dgS n)) [];rw[jV2 n oM];exact .oA [] []
theorem qv8 (n:Nat) (h:n<10):Sp 56 [vI n] [] (vS (dgS n)) []:=by
 have h1:Sp 182 [vI n,vI 10] [] (vS (dgS n)) []:=by
  have e1:decide (0≤(n:Int))=true:=Cx oM;have e2:decide ((n:Int)<100)=true:=Cx oM;refine sIr Zl fun e _ hst=>?_;unfold zY;simp only[tZ,↓uU,simprocAttr,beq_self_eq_true,e1,e2,Fj];refine C1.im (jO9 n h) rF rF ?_;refine sW ?_;exact .oA [] []
 have h2:Sp 116 [vI n] [] (vS (dgS n)) []:=by
  refine sIr Wl fun e _ hst=>?_;unfold jN;refine sW ?_;refine C1.im h1 rF rF ?_;refine sW ?_;exact .oA [] []
 refine sIr qP6 fun e _ hst=>?_;unfold Jg;refine sW ?_;refine C1.im h2 rF rF ?_;refine sW ?_;exact .oA [] []
def oneB (l:List UInt8) (a:Nat) (n:Int):Bool:=(nx l a n).1==n-1
theorem wL (l:List UInt8) (a:Nat) (n:Int) (hl:l.length≤400) (ha:a≤l.length) (hn:0≤n∧n≤1000000):Sp 46 [.ptr 0 1 0 0,vI n] [(0,oC l a)] (vB (oneB l a n)) [(0,oC l (nx l a n).2)]:=by
 have hw:IntKind.i64.wrap (n-1)=n-1:=AK _ oM;refine sIr qz6 fun e _ hst=>?_;unfold Qq;refine sW ?_;refine C1.draw 0 l a _ (jS l a n hl ha hn.2) rfl rfl rfl ?_;simp only[tZ,↓uU,simprocAttr,hw];rw[show ((nx l a n).1==n-1)=oneB l a n from rfl];exact .oA (U1 0) []
theorem yZ (l:List UInt8) (a:Nat) (n:Int) (hl:l.length≤400) (ha:a≤l.length) (hn:1≤n∧n≤1000000) :
 ∃ v b,0≤v∧v<n∧b≤l.length∧Sp 47 [.ptr 0 1 0 0,vI n] [(0,oC l a)] (vI v) [(0,oC l b)]:=
 ⟨_,_,(QL l a n hn.1).1,(QL l a n hn.1).2,qF8 l a n ha,jS l a n hl ha hn.2⟩
theorem qf0 (l:List UInt8) (a:Nat) (lo hi:Int) (hl:l.length≤400) (ha:a≤l.length) (hlo : -1000000≤lo∧lo≤1000000) (hhi:lo≤hi∧hi≤lo+100000) :
 ∃ v b,lo≤v∧v≤hi∧b≤l.length∧Sp 54 [.ptr 0 1 0 0,vI lo,vI hi] [(0,oC l a)] (vI v) [(0,oC l b)]:=by
 have r:=QL l a (hi-lo+1) oM;exact⟨_,_,oM,oM,qF8 l a (hi-lo+1) ha,jD l a lo hi hl ha hlo hhi⟩
theorem jA3 (l:List UInt8) (a:Nat) (n:Int) (hl:l.length≤400) (ha:a≤l.length) (hn:0≤n∧n≤1000000) :
 ∃ o b,b≤l.length∧Sp 46 [.ptr 0 1 0 0,vI n] [(0,oC l a)] (vB o) [(0,oC l b)]:=
 ⟨_,_,qF8 l a n ha,wL l a n hl ha hn⟩
theorem jP0 (m:Nat) (h:m<4):wTab.getD m []∈wTab:=by rw[qj (by exact h)];exact AX _
theorem ZF (n:Nat) (l:List UInt8) (a:Nat) (hl:l.length≤400) (ha:a≤l.length) :
 ∃ r:Col×Nat,(DrM n r.1∧r.2≤l.length)∧Sp 55 [.ptr 0 1 0 0,vS ⟨#[109,dgt n]⟩] [(0,oC l a)] (colT r.1) [(0,oC l r.2)]:=by
 have h1:=jD l a (-4) 2 hl ha oM oM;have r1:=QL l a (2 - -4+1) oM;have b1:=qF8 l a (2 - -4+1) ha;generalize nx l a (2 - -4+1)=x1 at h1 r1 b1;have h2:=jS l x1.2 4 hl b1 oM;have r2:=QL l x1.2 4 oM;have b2:=qF8 l x1.2 4 b1;generalize nx l x1.2 4=x2 at h2 r2 b2;have h3:=wL l x2.2 3 hl b2 oM;have b3:=qF8 l x2.2 3 b2;generalize (nx l x2.2 3).2=a3 at h3 b3;generalize oneB l x2.2 3=o at h3;have h4:=jS l a3 45 hl b3 oM;have r4:=QL l a3 45 oM;have b4:=qF8 l a3 45 b3;generalize nx l a3 45=x4 at h4 r4 b4;refine⟨(⟨⟨#[109,dgt n]⟩,3,0,-4+x1.1,-4+x1.1+x4.1,wTab.getD x2.1.toNat [],o⟩,x4.2),⟨⟨rfl,rfl,rfl,by dsimp only;omega,by dsimp only;omega,jP0 _ oM⟩,b4⟩,?_⟩;obtain⟨m,hm⟩:=AJ r2.1;have hw:IntKind.i64.wrap (-4+x1.1+x4.1) = -4+x1.1+x4.1:=AK _ oM;refine sIr qc7 fun e _ hst=>?_;unfold kP;refine sW ?_;refine C1.draw 0 l a _ h1 rfl rfl rfl ?_;refine sW ?_;refine C1.draw 0 l x1.2 _ h2 rfl rfl rfl ?_;rw[hm] at r2 ⊢
 rw[Ax];have hm4:m=0∨m=1∨m=2∨m=3:=by omega
 have k0:wTab.getD 0 []=[1]:=rfl;have k1:wTab.getD 1 []=[1,5]:=rfl;have k2:wTab.getD 2 []=[1,5,20]:=rfl;have k3:wTab.getD 3 []=[1,2,4,12]:=rfl;rcases hm4 with e | e | e | e
 all_goals (
  subst e;simp only[tZ,↓uU,simprocAttr,Ax,k0,k1,k2,k3]
  repeat (refine⟨oM,?_⟩)
  refine C1.draw 0 l x2.2 _ h3 rfl rfl rfl ?_;refine sW ?_;refine⟨kR,?_⟩;refine C1.draw 0 l a3 _ h4 rfl rfl rfl ?_;simp only[tZ,↓uU,simprocAttr,hw];refine⟨kR,?_⟩
  )
 ·exact .oA (U1 0) [8204]
 ·exact .oA (U1 0) [8208]
 ·exact .oA (U1 0) [8212]
 ·exact .oA (U1 0) [8216]
def addN (i:Nat):Nat→List Cod→List Cod
 | 0,cs=>cs
 | k+1,cs=>addN i k (addL cs i)
theorem qT9 (i:Nat):∀ (k:Nat) (cs:List Cod),(List.range k).foldl (fun cs _=>addL cs i) cs=addN i k cs:=by
 have key:∀ (m:List Nat) (cs:List Cod),m.foldl (fun cs _=>addL cs i) cs=addN i m.length cs:=by
  intro m
  induction m with
  | nil=>intro cs;rfl
  | cons x m ih=>intro cs;rw[Dw,ih];rfl
 intro k cs;rw[key,List.length_range]
theorem zB4:∀ (ns:List Nat) (cs:List Cod) (i n:Nat),lefL cs i (ns++[n])=addN (i+ns.length) n (lefL cs i ns)
 | [],cs,i,n=>by rw[Cy,lefL,lefL,qT9];rfl
 | x::r,cs,i,n=>by rw[BW,lefL,lefL,zB4 r _ (i+1) n,CJ,show i+1+r.length=i+(r.length+1) by omega]
theorem zT4 (i:Nat):∀ (k:Nat) (cs:List Cod),(addN i k cs).length=cs.length+k
 | 0,cs=>rfl
 | k+1,cs=>by rw[addN,zT4 i k,addL,AW];simp;omega
theorem zT5:∀ (ns:List Nat) (cs:List Cod) (i:Nat),(∀ x∈ns,x=1∨x=2)→cs.length+ns.length≤(lefL cs i ns).length∧(lefL cs i ns).length≤cs.length+2*ns.length
 | [],cs,i,_=>by rw[lefL];simp
 | x::r,cs,i,h=>by
   have h1:=zT5 r ((List.range x).foldl (fun cs _=>addL cs i) cs) (i+1) fun y hy=>h y (CQ _ hy);rw[qT9,zT4] at h1;rw[lefL,qT9,CJ];have:=h x sMp;omega
theorem Wy (nm:ByteArray) (hnm:nm=zA0∨nm=zA1) (l:List UInt8) (a:Nat) (hl:l.length≤400) (ha:a≤l.length) :
 ∃ r:CodL×Nat,(DrL nm r.1∧r.2≤l.length)∧Sp 53 [.ptr 0 1 0 0,vS nm] [(0,oC l a)] (cdlT r.1) [(0,oC l r.2)]:=by
 have h1:=jD l a 1 3 hl ha oM oM;have r1:=QL l a (3-1+1) oM;have b1:=qF8 l a (3-1+1) ha;generalize nx l a (3-1+1)=x1 at h1 r1 b1;obtain⟨K,hK⟩:=AJ (show 0≤1+x1.1 by omega);rw[hK] at h1;have hK3:1≤K∧K≤3:=by omega
 refine jB qr7 mixm (fun r:CodL×Nat=>cdlT r.1) (fun r=>[(0,oC l r.2)]) sMp ?_;unfold yD;refine sW ?_;refine XE.mp (fun _ _=>C1.draw 0 l a _ h1 rfl rfl rfl) ?_;refine sW ?_;have hk0:(qa2 0).map codT=[.agg [vS ⟨#[116,111,112]⟩,vI (-1)]]:=rfl;have hkl:∀ i,(qa2 i).length=i+1:=fun i=>by simp [qa2]
 have hks:∀ i,qa2 (i+1)=qa2 i++[kidC i]:=fun i=>by rw[qa2,List.range_succ,By];rfl
 refine XE.loopF mixm [7] (fun i:Nat=>i≤K) (fun i=>[(7,vI i)]) (fun i=>[(0,oC l x1.2),aR 4096 2 [cdlT default],aR 8200 2 ((qa2 i).map codT),aR 8208 2 [.agg [vS nm,.asl 8200 (i+1)]]]) (fun i=>K-i) 0 oM (fun e ⟨_,hst⟩=>?_) fun T' i hi ih=>?_
 ·simp only[hk0];exact .oA (U4 0 4096 8200 8208) []
 simp only[tZ,↓uU,simprocAttr,AZ,Ay];refine XE.brN (fun h=>?_) (fun h=>?_)
 ·have hwi:=qh (i:=i) oM;refine XE.mp (fun _ _=>C1.im (qv8 i oM) rF rF) ?_;simp only[tZ,↓uU,simprocAttr,hwi];refine XE.sd (show 1+1≤9223372036854775807 by omega) (XE.sd ⟨hkl i,oM⟩ (XE.sd (hkl i) (XE.sd kR ?_)));refine XE.next ih (i+1) oM oM fun e ⟨_,hst⟩=>?_;rw[qv7,hks];exact .oA (U4 0 4096 8200 8208) []
 ·have hiK:i=K:=by omega
  subst hiK;have h2:=wL l x1.2 2 hl b1 oM;have b2:=qF8 l x1.2 2 b1;generalize (nx l x1.2 2).2=a2 at h2 b2;generalize oneB l x1.2 2=o at h2;refine XE.mp (fun _ _=>C1.draw 0 l x1.2 _ h2 rfl rfl rfl) ?_;refine sW ?_;refine XE.brB (fun h3=>?_) (fun h3=>?_)
  ·refine XE.fin (⟨nm,qa2 i⟩,a2) ⟨⟨rfl,(jp2 hnm hK3).1,by rw[hkl];omega⟩,b2⟩ fun e ⟨_,hst⟩=>?_;have hkli:=hkl i;refine⟨hkl i,?_⟩;exact .oA (U1 0) [8200]
  ·refine XE.loopF mixm [8] (fun y:List Nat×Nat=>y.1.length≤i∧(∀ x∈y.1,x=1∨x=2)∧y.2≤l.length) (fun y=>[(8,vI y.1.length)]) (fun y=>[(0,oC l y.2),aR 4096 2 [cdlT default],aR 8200 2 ((lefL (qa2 i) 0 y.1).map codT),aR 8208 2 [.agg [vS nm,.asl 8200 (lefL (qa2 i) 0 y.1).length]]]) (fun y=>i-y.1.length) ([],a2) ⟨sMp,sMp,b2⟩ (fun e ⟨_,hst⟩=>?_) fun T2 y hy ih2=>?_
   ·have hkli:=hkl i;simp only[lefL];refine .of (U4 0 4096 8200 8208) [] rfl (by first | rfl | (rw[hst];rfl)) ?_ ?_
    all_goals (try simp only[tL,simprocAttr,By,List.map_cons,List.map_nil,BW,Cy,hkl])
    all_goals (try (exact clA))
   obtain⟨ns,a3⟩:=y;obtain⟨y1,y2,y3⟩:=hy;dsimp only at y1 y2 y3;have hll:=zT5 ns (qa2 i) 0 y2;rw[hkl] at hll;simp only[tZ,↓uU,simprocAttr,AZ,Ay];refine XE.brN (fun h4=>?_) (fun h4=>?_)
   ·have h5:=jD l a3 1 2 hl y3 oM oM;have r5:=QL l a3 (2-1+1) oM;have b5:=qF8 l a3 (2-1+1) y3;generalize nx l a3 (2-1+1)=x5 at h5 r5 b5;obtain⟨M,hM⟩:=AJ (show 0≤1+x5.1 by omega);rw[hM] at h5;have hsn:=zB4 ns (qa2 i) 0 M;rw[Nat.zero_add] at hsn;refine XE.mp (fun _ _=>C1.draw 0 l a3 _ h5 rfl rfl rfl) ?_;refine sW ?_;generalize lefL (qa2 i) 0 ns=cs at hll hsn ⊢
    refine XE.loopF mixm [9] (fun z:Nat×List Cod=>addN ns.length z.1 z.2=addN ns.length M cs∧z.2.length+z.1=cs.length+M) (fun z=>[(9,vI z.1)]) (fun z=>[(0,oC l x5.2),aR 4096 2 [cdlT default],aR 8200 2 (z.2.map codT),aR 8208 2 [.agg [vS nm,.asl 8200 z.2.length]]]) (fun z=>z.1) (M,cs) ⟨rfl,rfl⟩ (fun e ⟨_,hst⟩=>?_) fun T3 z hz ih3=>?_
    ·exact .oA (U4 0 4096 8200 8208) []
    obtain⟨k,ds⟩:=z;obtain⟨z1,z2⟩:=hz;dsimp only at z1 z2;simp only[tZ,↓uU,simprocAttr,AZ,Ay];refine XE.brN (fun h6=>?_) (fun h6=>?_)
    ·have hwn:=qh (i:=ns.length) oM;have hwk:=wJ (i:=k) oM oM;have hw1:IntKind.i64.wrap (1+(ns.length:Int))=1+(ns.length:Int):=AK _ oM;refine XE.mp (fun _ _=>C1.im (qv8 ds.length oM) rF rF) ?_;simp only[tZ,↓uU,simprocAttr,hwk,hw1];refine XE.sd (show 1+1≤9223372036854775807 by omega) (XE.sd oM (XE.sd kR ?_));refine XE.next ih3 (k-1,addL ds ns.length) ⟨?_,by dsimp only;rw[addL,AW];simp;omega⟩ (by dsimp only;omega) fun e ⟨_,hst⟩=>?_
     ·dsimp only;rw[← z1];obtain⟨j,rfl⟩:∃ j,k=j+1:=⟨k-1,oM⟩
      rfl
     ·rw[qv7];have e1:addL ds ns.length=ds++[⟨⟨#[108,dgt ds.length]⟩,1+(ns.length:Int)⟩]:=rfl;rw[e1];exact .oA (U4 0 4096 8200 8208) []
    ·have hk0:k=0:=by omega
     subst hk0;have hwn:=qh (i:=ns.length) oM;rw[addN,← hsn] at z1;simp only[tZ,↓uU,simprocAttr,hwn];refine XE.next ih2 (ns++[M],x5.2) ⟨by simp;omega,fun x hx=>?_,b5⟩ (by simp;omega) fun e ⟨_,hst⟩=>?_
     ·rcases Dz.1 hx with hx | hx
      ·exact y2 x hx
      ·rw[EZ.1 hx];omega
     ·simp only[z1,AW,CJ,Cw];rw[← z1];exact .oA (U4 0 4096 8200 8208) []
   ·have hni:ns.length=i:=by omega
    have hok:=(jp2 hnm hK3).2 ns hni y2;refine XE.fin (⟨nm,lefL (qa2 i) 0 ns⟩,a3) ⟨⟨rfl,hok,by dsimp only;omega⟩,y3⟩ fun e ⟨_,hst⟩=>?_;exact .oA (U1 0) [8200]
theorem qo6 (l:List UInt8) (a:Nat) (hl:l.length≤400) (ha:a≤l.length) :
 ∃ r:Sch×Nat,(DrS r.1∧r.2≤l.length)∧Sp 11 [.ptr 0 1 0 0] [(0,oC l a)] (schT r.1) [(0,oC l r.2)]:=by
 obtain⟨⟨A,a1⟩,⟨dA,ha1⟩,sA⟩:=Wy zA0 (.inl rfl) l a hl ha;obtain⟨⟨B,a2⟩,⟨dB,ha2⟩,sB⟩:=Wy zA1 (.inr rfl) l a1 hl ha1;dsimp only at dA ha1 sA dB ha2 sB;have h1:=wL l a2 2 hl ha2 oM;have b1:=qF8 l a2 2 ha2;generalize (nx l a2 2).2=a3 at h1 b1;generalize oneB l a2 2=o at h1;have h2:=jD l a3 1 3 hl b1 oM oM;have r2:=QL l a3 (3-1+1) oM;have b2:=qF8 l a3 (3-1+1) b1;generalize nx l a3 (3-1+1)=x2 at h2 r2 b2;obtain⟨N,hN⟩:=AJ (show 0≤1+x2.1 by omega);rw[hN] at h2;refine jB qh6 mixm (fun r:Sch×Nat=>schT r.1) (fun r=>[(0,oC l r.2)]) sMp ?_;unfold ww;refine sW ?_;refine XE.mp (fun _ _=>C1.draw 0 l a _ sA rfl rfl rfl) ?_;refine sW ?_;refine XE.mp (fun _ _=>C1.draw 0 l a1 _ sB rfl rfl rfl) ?_;refine sW ?_;refine XE.mp (fun _ _=>C1.draw 0 l a2 _ h1 rfl rfl rfl) ?_;refine sW ?_;refine XE.brB (fun ho=>?_) (fun ho=>?_)
 ·refine XE.mp (fun _ _=>C1.draw 0 l a3 _ h2 rfl rfl rfl) ?_;refine sW ?_;refine XE.loopF mixm [4,15] (fun y:List Col×Nat=>y.1.length≤N∧(∀ i (h:i<y.1.length),DrM (3+i) y.1[i])∧y.2≤l.length) (fun y=>[(4,vI ((N-y.1.length:Nat):Int))]) (fun y=>[(0,oC l y.2),aR 4096 2 [schT default],aR 8208 2 [cdlT A,cdlT B],aR 8220 7 (([whoC,sexC,jobC]++y.1).map colT),aR 8228 2 [.agg [.asl 8208 2,.asl 8220 (3+y.1.length)]]]) (fun y=>N-y.1.length) ([],x2.2) ⟨sMp,fun i h=>by simp at h,b2⟩ (fun e ⟨_,hst⟩=>?_) fun T' y hy ih=>?_
  ·show Le _ _ ⟨[(4,vI N),(0,_),(2,_),(3,_)],[(0,oC l x2.2),aR 4096 2 [schT default],aR 8208 2 [cdlT A,cdlT B],aR 8220 7 [colT whoC,colT sexC,colT jobC],aR 8228 2 [.agg [.asl 8208 2,.asl 8220 3]]]⟩;exact .oA (U5 0 4096 8208 8220 8228) []
  obtain⟨ms,a4⟩:=y;obtain⟨y1,y2,y3⟩:=hy;dsimp only at y1 y2 y3;simp only[tZ,↓uU,simprocAttr,AZ,Ay];refine XE.brN (fun h4=>?_) (fun h4=>?_)
  ·have hlt:ms.length<N:=by omega
   have hI:=qv8 (3+ms.length) oM;obtain⟨⟨M,a5⟩,⟨dM,ha5⟩,sM⟩:=ZF (3+ms.length) l a4 hl y3;dsimp only at dM ha5 sM;have hwk:=wJ (i:=N-ms.length) oM oM;refine XE.sd oM ?_;refine XE.mp (fun _ _=>C1.im hI rF rF) ?_;simp only[tZ,↓uU,simprocAttr,qv7];refine XE.sd (show 1+1≤9223372036854775807 by omega) ?_;refine XE.mp (fun _ _=>C1.draw 0 l a4 _ sM rfl rfl rfl) ?_;simp only[tZ,↓uU,simprocAttr,hwk];refine XE.sd oM (XE.sd oM (XE.sd kR ?_));refine XE.next ih (ms++[M],a5) ⟨by simp;omega,fun i h=>?_,ha5⟩ (by simp;omega) fun e ⟨_,hst⟩=>?_
   ·dsimp only at h ⊢
    by_cases hi:i<ms.length
    ·rw[List.getElem_append_left hi];exact y2 i hi
    ·have he:i=ms.length:=by rw[AW] at h;simp at h;omega
     subst he;rw[List.getElem_append_right (BZ _)];simpa using dM
   ·have e1:N-(ms++[M]).length=N-ms.length-1:=by rw[AW];simp;omega
    simp only[e1];exact .oA (U5 0 4096 8208 8220 8228) []
  ·have hnl:ms.length=N:=by omega
   refine XE.fin (⟨[A,B],[whoC,sexC,jobC]++ms⟩,a4) ⟨⟨⟨A,B,rfl,dA,dB⟩,⟨ms,.inr ⟨rfl,y2⟩,oM,oM⟩⟩,y3⟩ fun e ⟨_,hst⟩=>?_;refine⟨oM,?_⟩;exact .oA (U1 0) [8208,8220]
 ·refine XE.mp (fun _ _=>C1.draw 0 l a3 _ h2 rfl rfl rfl) ?_;refine sW ?_;refine XE.loopF mixm [4,15] (fun y:List Col×Nat=>y.1.length≤N∧(∀ i (h:i<y.1.length),DrM (2+i) y.1[i])∧y.2≤l.length) (fun y=>[(4,vI ((N-y.1.length:Nat):Int))]) (fun y=>[(0,oC l y.2),aR 4096 2 [schT default],aR 8208 2 [cdlT A,cdlT B],aR 8220 7 (([whoC,sexC]++y.1).map colT),aR 8228 2 [.agg [.asl 8208 2,.asl 8220 (2+y.1.length)]]]) (fun y=>N-y.1.length) ([],x2.2) ⟨sMp,fun i h=>by simp at h,b2⟩ (fun e ⟨_,hst⟩=>?_) fun T' y hy ih=>?_
  ·show Le _ _ ⟨[(4,vI N),(0,_),(2,_),(3,_)],[(0,oC l x2.2),aR 4096 2 [schT default],aR 8208 2 [cdlT A,cdlT B],aR 8220 7 [colT whoC,colT sexC],aR 8228 2 [.agg [.asl 8208 2,.asl 8220 2]]]⟩;exact .oA (U5 0 4096 8208 8220 8228) []
  obtain⟨ms,a4⟩:=y;obtain⟨y1,y2,y3⟩:=hy;dsimp only at y1 y2 y3;simp only[tZ,↓uU,simprocAttr,AZ,Ay];refine XE.brN (fun h4=>?_) (fun h4=>?_)
  ·have hlt:ms.length<N:=by omega
   have hI:=qv8 (2+ms.length) oM;obtain⟨⟨M,a5⟩,⟨dM,ha5⟩,sM⟩:=ZF (2+ms.length) l a4 hl y3;dsimp only at dM ha5 sM;have hwk:=wJ (i:=N-ms.length) oM oM;refine XE.sd oM ?_;refine XE.mp (fun _ _=>C1.im hI rF rF) ?_;simp only[tZ,↓uU,simprocAttr,qv7];refine XE.sd (show 1+1≤9223372036854775807 by omega) ?_;refine XE.mp (fun _ _=>C1.draw 0 l a4 _ sM rfl rfl rfl) ?_;simp only[tZ,↓uU,simprocAttr,hwk];refine XE.sd oM (XE.sd oM (XE.sd kR ?_));refine XE.next ih (ms++[M],a5) ⟨by simp;omega,fun i h=>?_,ha5⟩ (by simp;omega) fun e ⟨_,hst⟩=>?_
   ·dsimp only at h ⊢
    by_cases hi:i<ms.length
    ·rw[List.getElem_append_left hi];exact y2 i hi
    ·have he:i=ms.length:=by rw[AW] at h;simp at h;omega
     subst he;rw[List.getElem_append_right (BZ _)];simpa using dM
   ·have e1:N-(ms++[M]).length=N-ms.length-1:=by rw[AW];simp;omega
    simp only[e1];exact .oA (U5 0 4096 8208 8220 8228) []
  ·have hnl:ms.length=N:=by omega
   refine XE.fin (⟨[A,B],[whoC,sexC]++ms⟩,a4) ⟨⟨⟨A,B,rfl,dA,dB⟩,⟨ms,.inl ⟨rfl,y2⟩,oM,oM⟩⟩,y3⟩ fun e ⟨_,hst⟩=>?_;refine⟨oM,?_⟩;exact .oA (U1 0) [8208,8220]
theorem DrS.col {s:Sch} (h:DrS s) {i:Nat} (hi:i<s.cols.length) (hk:(qg s i).kind=3):∃ n,DrM n (qg s i):=by
 obtain⟨ms,hc,h1,h3⟩:=h.cs;have key:∀ (pre:List Col) (n:Nat),(∀ c∈pre,c.kind≠3)→s.cols=pre++ms→(∀ j (hj:j<ms.length),DrM (n+j) ms[j])→∃ n,DrM n (qg s i):=by
  intro pre n hp he hm;rw[qg,qj hi] at hk ⊢
  by_cases c:i<pre.length
  ·have e:s.cols[i]=pre[i]:=by simp only[he];exact List.getElem_append_left c
   rw[e] at hk;exact absurd hk (hp _ (AX c))
  ·have hl:i-pre.length<ms.length:=by rw[he,AW] at hi;omega
   have e:s.cols[i]=ms[i-pre.length]:=by simp only[he];exact List.getElem_append_right oM
   rw[e];exact⟨_,hm _ hl⟩
 rcases hc with⟨hc,hm⟩ | ⟨hc,hm⟩
 ·exact key [whoC,sexC] 2 (by simp [whoC,sexC]) (by rw[hc];rfl) hm
 ·exact key [whoC,sexC,jobC] 3 (by simp [whoC,sexC,jobC]) (by rw[hc];rfl) hm
theorem DrS.nl {s:Sch} (h:DrS s):s.lists.length=2:=by
 obtain⟨a,b,e,_⟩:=h.ls;rw[e];rfl
structure DrX (x:Src):Prop where
 sch:DrS x.sch
 ok:SrcOk x
 gone:x.gone=[]
 ver:x.ver=0
def Yu (s:Sch) (kind:Int) (n:Nat):List Int:=List.map (fun i:Nat=>(i:Int)) ((List.range n).filter fun i=>(qg s i).kind==kind)
theorem kp (s:Sch) (kind:Int) (n:Nat):Yu s kind (n+1)=Yu s kind n++(if (qg s n).kind=kind then [(n:Int)] else []):=by
 unfold Yu;rw[List.range_succ,Gz,By]
 congr 1
 by_cases h:(qg s n).kind=kind
 ·rw[Aj h,List.filter_cons,Aj (AY.2 h)];rfl
 ·rw[Aq h,List.filter_cons,Aq (by rw[AY];exact h)];rfl
theorem qv9 (s:Sch) (kind:Int) (n:Nat):(Yu s kind n).length≤n:=by
 unfold Yu;rw[BY];exact FX (Fq _ _) sMp
def KX (s:Sch) (kind:Int):List Int:=Yu s kind s.cols.length
theorem JJ {s:Sch} {kind v:Int}:v∈KX s kind↔isB s v kind=true:=by
 unfold KX Yu;rw[zu];simp only[Cj,Fx,Dk,AY];constructor
 ·rintro ⟨i,⟨h1,h2⟩,rfl⟩;exact⟨oM,oM,by rw[Ax];exact h2⟩
 ·rintro ⟨h1,h2,h3⟩;exact⟨v.toNat,⟨oM,h3⟩,oM⟩
theorem QN (s:Sch) (kind:Int) (hn:s.cols.length≤1000):Sp 183 [schT s,vI kind] [] (vIs (KX s kind)) []:=by
 refine sIr qR4 fun e _ hst=>?_;unfold Jr;refine sW ?_;refine qt mixm (α:=Nat) [5,10] (fun i=>i≤s.cols.length) (fun i=>[(5,.asl 1 (Yu s kind i).length),(10,vI i)]) (fun i=>[aR 4096 2 [schT s],aR 1 1 ((Yu s kind i).map vI)]) (fun i=>s.cols.length-i) 0 oM ?_ fun i hi=>?_
 ·show Le _ _ ⟨_,[aR 4096 2 [schT s],aR 1 1 []]⟩;exact .oA [uI 4096,(1,none)] []
 have hfl:=qv9 s kind i;refine sD ?_;refine⟨fun h=>?_,fun h=>?_⟩
 ·have hi2:i<s.cols.length:=by omega
  have hwi:=qh (i:=i) oM;have hat:qg s i=s.cols[i]:=by rw[qg,qj hi2]
  have hsu:=kp s kind i;rw[hat] at hsu;simp only[tZ,↓uU,simprocAttr,Ax,qd hi2,hwi,AY,Ak];refine⟨oM,fun h2=>?_,fun h2=>?_⟩
  ·rw[Aj h2] at hsu;refine⟨oM,i+1,oM,oM,?_⟩;rw[hsu];exact .oA (U2 4096 1) []
  ·rw[Aq h2,CW] at hsu;refine⟨i+1,oM,oM,?_⟩;rw[hsu];exact .oA (U2 4096 1) []
 ·have hil:i=s.cols.length:=by omega
  subst hil;exact .oA [] [1]
theorem DrS.code {s:Sch} (h:DrS s):0<(KX s 2).length∧(KX s 2).length≤8:=by
 have hnc:=(qV h.ok).nc;have hl:=qv9 s 2 s.cols.length;refine⟨List.length_pos_of_mem (a:=1) (JJ.2 (zu.2 ?_)),by unfold KX;omega⟩;obtain⟨ms,hc,h1,h3⟩:=h.cs;rcases hc with⟨hc,hm⟩ | ⟨hc,hm⟩
 ·refine⟨oM,by rw[hc];simp;omega,by rw[qg,hc];rfl⟩
 ·refine⟨oM,by rw[hc];simp;omega,by rw[qg,hc];rfl⟩
theorem DrS.meas {s:Sch} (h:DrS s):0<(KX s 3).length∧(KX s 3).length≤8:=by
 have hnc:=(qV h.ok).nc;have hl:=qv9 s 3 s.cols.length;refine⟨?_,by unfold KX;omega⟩;obtain⟨ms,hc,h1,h3⟩:=h.cs;rcases hc with⟨hc,hm⟩ | ⟨hc,hm⟩
 ·refine List.length_pos_of_mem (a:=2) (JJ.2 (zu.2 ⟨oM,by rw[hc];simp;omega,?_⟩));have:=(hm 0 h1).kind;rw[qg,hc];show ((whoC::sexC::ms).getD 2 default).kind=3;rw[qj (by simp;omega)];exact this
 ·refine List.length_pos_of_mem (a:=3) (JJ.2 (zu.2 ⟨oM,by rw[hc];simp;omega,?_⟩));have:=(hm 0 h1).kind;rw[qg,hc];show ((whoC::sexC::jobC::ms).getD 3 default).kind=3;rw[qj (by simp;omega)];exact this
theorem jp8 (s:Sch) (hd:DrS s) (l:List UInt8) (a:Nat) (hl:l.length≤400) (ha:a≤l.length) :
 ∃ (v:Nat) (b:Nat),isB s v 2=true∧b≤l.length∧Sp 117 [.ptr 0 1 0 0,schT s] [(0,oC l a)] (vI v) [(0,oC l b)]:=by
 have hnc:=(qV hd.ok).nc;have hc:=QN s 2 oM;have hm:=fun v=>(JJ (s:=s) (kind:=2) (v:=v)).1;obtain⟨k1,k2⟩:=hd.code;generalize KX s 2=L at hc hm k1 k2;obtain⟨j,b,j1,j2,hb,sN⟩:=yZ l a L.length hl ha oM;obtain⟨m,rfl⟩:=AJ j1;have hmL:m<L.length:=by omega
 have hv:=hm _ (AX hmL);obtain⟨v,e⟩:=AJ (zu.1 hv).1;refine⟨v,b,by rw[← e];exact hv,hb,?_⟩;rw[← e];refine sIr qm8 fun e _ hst=>?_;unfold wT;refine sW ?_;refine C1.im hc rF rF ?_;refine sW ?_;refine C1.draw 0 l a _ sN rfl rfl rfl ?_;simp only[tZ,↓uU,simprocAttr,Ax,qd hmL];refine⟨oM,?_⟩;exact .oA (U1 0) []
theorem QG (s:Sch) (hd:DrS s) (l:List UInt8) (a:Nat) (hl:l.length≤400) (ha:a≤l.length) :
 ∃ (v:Nat) (b:Nat),isB s v 3=true∧b≤l.length∧Sp 118 [.ptr 0 1 0 0,schT s] [(0,oC l a)] (vI v) [(0,oC l b)]:=by
 have hnc:=(qV hd.ok).nc;have hc:=QN s 3 oM;have hm:=fun v=>(JJ (s:=s) (kind:=3) (v:=v)).1;obtain⟨k1,k2⟩:=hd.meas;generalize KX s 3=L at hc hm k1 k2;obtain⟨j,b,j1,j2,hb,sN⟩:=yZ l a L.length hl ha oM;obtain⟨m,rfl⟩:=AJ j1;have hmL:m<L.length:=by omega
 have hv:=hm _ (AX hmL);obtain⟨v,e⟩:=AJ (zu.1 hv).1;refine⟨v,b,by rw[← e];exact hv,hb,?_⟩;rw[← e];refine sIr YV fun e _ hst=>?_;unfold kA;refine sW ?_;refine C1.im hc rF rF ?_;refine sW ?_;refine C1.draw 0 l a _ sN rfl rfl rfl ?_;simp only[tZ,↓uU,simprocAttr,Ax,qd hmL];refine⟨oM,?_⟩;exact .oA (U1 0) []
set_option maxHeartbeats 8000000
mutual
def sizC:Cnd→Nat
 | .mk _ _ _ _ _ ks=>qw0 ks+1
def qw0:List Cnd→Nat
 | []=>0
 | k::r=>sizC k+qw0 r
end
theorem zo0 (c:Cnd):sizC c=qw0 c.kids+1:=by cases c;rw[sizC];rfl
theorem jP1:∀ c,∀ m,1≤m→cntC c m≤sizC c:=by
 refine Cnd.ind' fun c ih m hm=>?_;rw[ZA,zo0];have key:∀ l:List Cnd,(∀ k∈l,k∈c.kids)→∀ n,n≤m→kL l m n≤n+qw0 l:=by
  intro l
  induction l with
  | nil=>intro _ n h;rw[kL,qw0];omega
  | cons k r ihl=>
    intro hk n h;rw[kL,qw0];split
    ·have c1:=qF1 k (m-n) oM;have c2:=ih k (hk k sMp) (m-n) oM;have c3:=ihl (fun x hx=>hk x (CQ _ hx)) (n+cntC k (m-n)) oM;omega
    ·omega
 have:=key c.kids (fun k hk=>hk) 1 oM;omega
structure CndOk (s:Sch) (n:Nat) (c:Cnd):Prop where
 ok:nodE s c=0
 dep:depC c≤n+1
 siz:sizC c+1≤2 ^ (n+1)
theorem CndOk.chk {s:Sch} {n:Nat} {c:Cnd} (h:CndOk s n c) (hE:schE s=0) (hn:n≤3):chkC s c=0:=by
 have h1:=jP1 c 41 oM;have h2:=h.siz;have h3:=h.dep;have h4:2 ^ (n+1)≤2 ^ 4:=Nat.pow_le_pow_right oM oM;rw[chkC,Aq (by rw[hE];simp),Aq oM,Aq oM];exact h.ok
theorem zI0 {s:Sch} {c:Cnd} (h1:ndE s c=0) (h2:Qh s c.kids=0):nodE s c=0:=by rw[zm7,Aq (by rw[h1];simp)];exact h2
theorem yd {s:Sch} {c:Cnd} (n:Nat) (h1:ndE s c=0) (h2:c.kids=[]):CndOk s n c:=by
 have h3:2 ^ 1≤2 ^ (n+1):=Nat.pow_le_pow_right oM oM;refine⟨zI0 h1 (by rw[h2,Qh]),by rw[qB7,h2,kj];omega,by rw[zo0,h2,qw0];omega⟩
theorem jp9 {s:Sch} {c:Cnd} (h1:¬ (c.op<1∨7<c.op)) (h2:¬ (c.kids.length≠arC c.op∨(c.op≠2∧c.op≠3∧c.op≠4∧c.col≠0)∨(c.op≠2∧c.code≠0)∨(c.op≠3∧(c.lo≠0∨c.hi≠0))))
 (h3:¬ ((c.op=2∧isB s c.col 2=false)∨(c.op=3∧isB s c.col 3=false)∨(c.op=4∧(isB s c.col 3=false∨(qg s c.col.toNat).opt=false))))
 (h4:¬ (c.op=2∧(c.code<0∨c.code≥(qU s c.col.toNat).codes.length))) (h5:¬ (c.op=3∧(c.lo < -1000000∨c.hi>1000000∨c.lo>c.hi))):ndE s c=0:=by
 rw[ndE,Aq h1,Aq h2,Aq h3,Aq h4,Aq h5]
theorem qU0 (s:Sch):ndE s (.mk 1 0 0 0 0 [])=0:=jp9 (by simp [Cnd.op,Cnd.col,Cnd.code,Cnd.lo,Cnd.hi,Cnd.kids]) (by simp [arC,Cnd.op,Cnd.col,Cnd.code,Cnd.lo,Cnd.hi,Cnd.kids]) (by simp [Cnd.op,Cnd.col,Cnd.code,Cnd.lo,Cnd.hi,Cnd.kids]) (by simp [Cnd.op,Cnd.col,Cnd.code,Cnd.lo,Cnd.hi,Cnd.kids]) (by simp [Cnd.op,Cnd.col,Cnd.code,Cnd.lo,Cnd.hi,Cnd.kids])
theorem zT6 {s:Sch} {v:Nat} {k:Int} (h:isB s v 2=true) (h1:0≤k) (h2:k<(qU s v).codes.length):ndE s (.mk 2 v k 0 0 [])=0:=
 jp9 (by simp [Cnd.op,Cnd.col,Cnd.code,Cnd.lo,Cnd.hi,Cnd.kids]) (by simp [arC,Cnd.op,Cnd.col,Cnd.code,Cnd.lo,Cnd.hi,Cnd.kids]) (by simp [Cnd.op,Cnd.col,Cnd.code,Cnd.lo,Cnd.hi,Cnd.kids,h]) (by simp only[Cnd.op,Cnd.col,Cnd.code,Cnd.lo,Cnd.hi,Cnd.kids,Ax];omega) (by simp [Cnd.op,Cnd.col,Cnd.code,Cnd.lo,Cnd.hi,Cnd.kids])
theorem qh1 {s:Sch} {v:Nat} {a b:Int} (h:isB s v 3=true) (h1 : -1000000≤a) (h2:b≤1000000) (h3:a≤b):ndE s (.mk 3 v 0 a b [])=0:=
 jp9 (by simp [Cnd.op,Cnd.col,Cnd.code,Cnd.lo,Cnd.hi,Cnd.kids]) (by simp [arC,Cnd.op,Cnd.col,Cnd.code,Cnd.lo,Cnd.hi,Cnd.kids]) (by simp [Cnd.op,Cnd.col,Cnd.code,Cnd.lo,Cnd.hi,Cnd.kids,h]) (by simp [Cnd.op,Cnd.col,Cnd.code,Cnd.lo,Cnd.hi,Cnd.kids]) (by simp only[Cnd.op,Cnd.col,Cnd.code,Cnd.lo,Cnd.hi,Cnd.kids];omega)
theorem jq0 {s:Sch} {v:Nat} (h:isB s v 3=true) (h1:(qg s v).opt=true):ndE s (.mk 4 v 0 0 0 [])=0:=
 jp9 (by simp [Cnd.op,Cnd.col,Cnd.code,Cnd.lo,Cnd.hi,Cnd.kids]) (by simp [arC,Cnd.op,Cnd.col,Cnd.code,Cnd.lo,Cnd.hi,Cnd.kids]) (by simp only[Cnd.op,Cnd.col,Cnd.code,Cnd.lo,Cnd.hi,Cnd.kids,Ax,h,h1];simp) (by simp [Cnd.op,Cnd.col,Cnd.code,Cnd.lo,Cnd.hi,Cnd.kids]) (by simp [Cnd.op,Cnd.col,Cnd.code,Cnd.lo,Cnd.hi,Cnd.kids])
theorem jq1 {s:Sch} {op:Int} {ks:List Cnd} (h:op=5∨op=6∨op=7) (hk:ks.length=arC op):ndE s (.mk op 0 0 0 0 ks)=0:=
 jp9 (by simp only[Cnd.op,Cnd.col,Cnd.code,Cnd.lo,Cnd.hi,Cnd.kids];omega) (by simp [Cnd.op,Cnd.col,Cnd.code,Cnd.lo,Cnd.hi,Cnd.kids,hk]) (by simp only[Cnd.op,Cnd.col,Cnd.code,Cnd.lo,Cnd.hi,Cnd.kids];omega) (by simp only[Cnd.op,Cnd.col,Cnd.code,Cnd.lo,Cnd.hi,Cnd.kids];omega) (by simp only[Cnd.op,Cnd.col,Cnd.code,Cnd.lo,Cnd.hi,Cnd.kids];omega)
theorem jV3 {s:Sch} {n:Nat} {c:Cnd} (h:CndOk s n c):CndOk s (n+1) (.mk 7 0 0 0 0 [c]):=by
 have h1:=h.dep;have h2:=h.siz;have h3:2 ^ (n+1+1)=2*2 ^ (n+1):=by rw[Nat.pow_succ];omega
 refine⟨zI0 (jq1 (.inr (.inr rfl)) rfl) ?_,?_,?_⟩
 ·show Qh s [c]=0;rw[Qh,Aq (by rw[h.ok];simp),Qh]
 ·rw[qB7];show kj [c]+1≤_;rw[kj,kj];omega
 ·rw[zo0];show qw0 [c]+1+1≤_;rw[qw0,qw0];omega
theorem jJ7 {s:Sch} {n:Nat} {c d:Cnd} {op:Int} (ho:op=5∨op=6) (h:CndOk s n c) (g:CndOk s n d):CndOk s (n+1) (.mk op 0 0 0 0 [c,d]):=by
 have h1:=h.dep;have h2:=h.siz;have g1:=g.dep;have g2:=g.siz;have h3:2 ^ (n+1+1)=2*2 ^ (n+1):=by rw[Nat.pow_succ];omega
 refine⟨zI0 (jq1 oM (by rcases ho with h | h <;> subst h <;> rfl)) ?_,?_,?_⟩
 ·show Qh s [c,d]=0;rw[Qh,Aq (by rw[h.ok];simp),Qh,Aq (by rw[g.ok];simp),Qh]
 ·rw[qB7];show kj [c,d]+1≤_;rw[kj,kj,kj];omega
 ·rw[zo0];show qw0 [c,d]+1+1≤_;rw[qw0,qw0,qw0];omega
theorem QH (s:Sch) (hd:DrS s) (l:List UInt8) (hl:l.length≤400):∀ (n:Nat) (a:Nat),a≤l.length→n≤3→
 ∃ r:Cnd×Nat,(CndOk s n r.1∧r.2≤l.length)∧Sp 57 [.ptr 0 1 0 0,schT s,vI n] [(0,oC l a)] (cnT r.1) [(0,oC l r.2)]:=by
 have hE:=hd.ok;have hok:=qV hE;have hnc:=hok.nc;have hat:∀ i (h:i<s.cols.length),qg s i=s.cols[i]:=fun i h=>by rw[qg,qj h]
 have hnl:=hd.nl;intro n
 induction n with
 | zero=>
   intro a ha _;refine jB Kg mixm (fun r:Cnd×Nat=>cnT r.1) (fun r=>[(0,oC l r.2)]) sMp ?_;unfold kH;have hz:decide (((0:Nat):Int)>0)=false:=rfl;simp only[tZ,↓uU,simprocAttr,hz];obtain⟨b,hb2⟩:∃ b,b=a:=⟨_,rfl⟩;rw[← hb2];have hb:b≤l.length:=by omega
   obtain⟨j2,b2,u1,u2,hb2,sN2⟩:=yZ l b 5 hl hb oM;refine XE.mp (fun _ _=>C1.draw 0 l b _ sN2 rfl rfl rfl) ?_;simp only[tZ,↓uU,simprocAttr,AY,Ak];refine XE.brN (fun h1=>?_) (fun h1=>?_)
   ·obtain⟨v,b3,hv,hb3,sV⟩:=jp8 s hd l b2 hl hb2;obtain⟨_,v2,v3⟩:=zu.1 hv;rw[Ax] at v3;have hil:v<s.cols.length:=by omega
    obtain⟨d1,d2⟩:=hok.cdl hil v3;obtain⟨d3,d4⟩:=(zj (hok.cs v hil)).2.2.2.1 v3;have hcl:qU s v=s.lists.getD s.cols[v].list.toNat default:=by rw[qU,hat v hil]
    have hnd:=fun k=>zT6 (k:=k) hv;rw[hat v hil] at d1 d3 d4;rw[hcl,qj d1] at d2 hnd;obtain⟨_,d5,d6⟩:=zm d2;obtain⟨w,b4,w1,w2,hb4,sQ⟩:=yZ l b3 s.lists[s.cols[v].list.toNat].codes.length hl hb3 oM;refine XE.mp (fun _ _=>C1.draw 0 l b2 _ sV rfl rfl rfl) ?_;simp only[tZ,↓uU,simprocAttr,Ax,qd hil,qd d1];refine XE.sd oM (XE.sd oM ?_);refine XE.mp (fun _ _=>C1.draw 0 l b3 _ sQ rfl rfl rfl) ?_;refine sW ?_;refine XE.sd kR ?_;refine XE.fin (.mk 2 v w 0 0 [],b4) ⟨yd _ (hnd w w1 w2) rfl,hb4⟩ fun e ⟨_,hst⟩=>?_;exact .oA (U1 0) []
   ·refine XE.brN (fun h2=>?_) (fun h2=>?_)
    ·refine XE.brN (fun _=>?_) (fun k=>absurd h2 k);obtain⟨v,b3,hv,hb3,sV⟩:=QG s hd l b2 hl hb2;obtain⟨_,v2,v3⟩:=zu.1 hv;rw[Ax] at v3;have hil:v<s.cols.length:=by omega
     obtain⟨_,hM⟩:=hd.col hil v3;have hlo:=hM.low;rw[hat v hil] at hlo;obtain⟨w,b4,w1,w2,hb4,sQ⟩:=qf0 l b3 (-3) 40 hl hb3 oM oM;obtain⟨z,b5,z1,z2,hb5,sZ⟩:=yZ l b4 30 hl hb4 oM;have hw1:IntKind.i64.wrap (s.cols[v].low+w)=s.cols[v].low+w:=AK _ oM;have hw2:IntKind.i64.wrap (s.cols[v].low+w+z)=s.cols[v].low+w+z:=AK _ oM;refine XE.mp (fun _ _=>C1.draw 0 l b2 _ sV rfl rfl rfl) ?_;simp only[tZ,↓uU,simprocAttr,Ax,qd hil];refine XE.sd oM ?_;refine XE.mp (fun _ _=>C1.draw 0 l b3 _ sQ rfl rfl rfl) ?_;simp only[tZ,↓uU,simprocAttr,hw1];refine XE.sd kR ?_;refine XE.mp (fun _ _=>C1.draw 0 l b4 _ sZ rfl rfl rfl) ?_;simp only[tZ,↓uU,simprocAttr,hw2];refine XE.fin (.mk 3 v 0 (s.cols[v].low+w) (s.cols[v].low+w+z) [],b5) ⟨yd _ (qh1 hv oM oM oM) rfl,hb5⟩ fun e ⟨_,hst⟩=>?_;exact .oA (U1 0) []
    ·refine XE.brN (fun h3=>?_) (fun h3=>?_)
     ·obtain⟨v,b3,hv,hb3,sV⟩:=QG s hd l b2 hl hb2;obtain⟨_,v2,v3⟩:=zu.1 hv;rw[Ax] at v3;have hil:v<s.cols.length:=by omega
      obtain⟨_,hM⟩:=hd.col hil v3;have hlo:=hM.low;rw[hat v hil] at hlo;obtain⟨w,b4,w1,w2,hb4,sQ⟩:=qf0 l b3 (-3) 40 hl hb3 oM oM;obtain⟨z,b5,z1,z2,hb5,sZ⟩:=yZ l b4 30 hl hb4 oM;have hw1:IntKind.i64.wrap (s.cols[v].low+w)=s.cols[v].low+w:=AK _ oM;have hw2:IntKind.i64.wrap (s.cols[v].low+w+z)=s.cols[v].low+w+z:=AK _ oM;refine XE.mp (fun _ _=>C1.draw 0 l b2 _ sV rfl rfl rfl) ?_;simp only[tZ,↓uU,simprocAttr,Ax,qd hil];refine XE.sd oM ?_;refine XE.mp (fun _ _=>C1.draw 0 l b3 _ sQ rfl rfl rfl) ?_;simp only[tZ,↓uU,simprocAttr,hw1];refine XE.sd kR ?_;refine XE.mp (fun _ _=>C1.draw 0 l b4 _ sZ rfl rfl rfl) ?_;simp only[tZ,↓uU,simprocAttr,hw2];refine XE.fin (.mk 3 v 0 (s.cols[v].low+w) (s.cols[v].low+w+z) [],b5) ⟨yd _ (qh1 hv oM oM oM) rfl,hb5⟩ fun e ⟨_,hst⟩=>?_;exact .oA (U1 0) []
     ·refine XE.brN (fun h4=>?_) (fun h4=>?_)
      ·obtain⟨v,b3,hv,hb3,sV⟩:=QG s hd l b2 hl hb2;obtain⟨_,v2,v3⟩:=zu.1 hv;rw[Ax] at v3;have hil:v<s.cols.length:=by omega
       refine XE.mp (fun _ _=>C1.draw 0 l b2 _ sV rfl rfl rfl) ?_;simp only[tZ,↓uU,simprocAttr,Ax,qd hil];refine XE.sd oM ?_;refine XE.brB (fun h5=>?_) (fun h5=>?_)
       ·refine XE.fin (.mk 4 v 0 0 0 [],b3) ⟨yd _ (jq0 hv (by rw[hat v hil];exact h5)) rfl,hb3⟩ fun e ⟨_,hst⟩=>?_;exact .oA (U1 0) []
       ·refine XE.fin (.mk 1 0 0 0 0 [],b3) ⟨yd _ (qU0 s) rfl,hb3⟩ fun e ⟨_,hst⟩=>?_;exact .oA (U1 0) []
      ·refine XE.fin (.mk 1 0 0 0 0 [],b2) ⟨yd _ (qU0 s) rfl,hb2⟩ fun e ⟨_,hst⟩=>?_;exact .oA (U1 0) []
 | succ n ih=>
   intro a ha hn;have hz:decide (((n+1:Nat):Int)>0)=true:=Cx oM;have hwp:IntKind.i64.wrap (((n+1:Nat):Int)-1)=n:=by rw[AK _ oM];omega
   obtain⟨j,b,j1,j2,hb,sN⟩:=yZ l a 5 hl ha oM;obtain⟨⟨c1,b1⟩,⟨hc1,hb1⟩,sC1⟩:=ih b hb oM;dsimp only at hc1 hb1 sC1;obtain⟨⟨c2,b2⟩,⟨hc2,hb2⟩,sC2⟩:=ih b1 hb1 oM;dsimp only at hc2 hb2 sC2;refine jB Kg mixm (fun r:Cnd×Nat=>cnT r.1) (fun r=>[(0,oC l r.2)]) sMp ?_;unfold kH;simp only[tZ,↓uU,simprocAttr,hz];refine XE.mp (fun _ _=>C1.draw 0 l a _ sN rfl rfl rfl) ?_;simp only[tZ,↓uU,simprocAttr,hwp,AY,Ak];refine XE.brN (fun h2=>?_) (fun h2=>XE.brN (fun h3=>?_) (fun h3=>XE.brN (fun h4=>?_) (fun h4=>?_)))
   ·refine XE.mp (fun _ _=>C1.draw 0 l b _ sC1 rfl rfl rfl) ?_;refine sW ?_;refine XE.fin (.mk 7 0 0 0 0 [c1],b1) ⟨jV3 hc1,hb1⟩ fun e ⟨_,hst⟩=>?_;show yx _ _ _ (.agg [vI 7,vI 0,vI 0,vI 0,vI 0,.sl 6 [cndT c1]]) _;rw[zh];exact .oA (U1 0) [20500]
   ·refine XE.mp (fun _ _=>C1.draw 0 l b _ sC1 rfl rfl rfl) ?_;simp only[tZ,↓uU,simprocAttr,hwp];refine XE.mp (fun _ _=>C1.draw 0 l b1 _ sC2 rfl rfl rfl) ?_;refine sW ?_;refine XE.sd kR ?_;refine XE.fin (.mk 5 0 0 0 0 [c1,c2],b2) ⟨jJ7 oM hc1 hc2,hb2⟩ fun e ⟨_,hst⟩=>?_;show yx _ _ _ (.agg [vI 5,vI 0,vI 0,vI 0,vI 0,.sl 6 [cndT c1,cndT c2]]) _;rw[zh,zh];exact .oA (U1 0) [28712]
   ·refine XE.mp (fun _ _=>C1.draw 0 l b _ sC1 rfl rfl rfl) ?_;simp only[tZ,↓uU,simprocAttr,hwp];refine XE.mp (fun _ _=>C1.draw 0 l b1 _ sC2 rfl rfl rfl) ?_;refine sW ?_;refine XE.sd kR ?_;refine XE.fin (.mk 6 0 0 0 0 [c1,c2],b2) ⟨jJ7 oM hc1 hc2,hb2⟩ fun e ⟨_,hst⟩=>?_;show yx _ _ _ (.agg [vI 6,vI 0,vI 0,vI 0,vI 0,.sl 6 [cndT c1,cndT c2]]) _;rw[zh,zh];exact .oA (U1 0) [36904]
   ·obtain⟨j2,b2,u1,u2,hb2,sN2⟩:=yZ l b 5 hl hb oM;refine XE.mp (fun _ _=>C1.draw 0 l b _ sN2 rfl rfl rfl) ?_;simp only[tZ,↓uU,simprocAttr,AY,Ak];refine XE.brN (fun h1=>?_) (fun h1=>?_)
    ·obtain⟨v,b3,hv,hb3,sV⟩:=jp8 s hd l b2 hl hb2;obtain⟨_,v2,v3⟩:=zu.1 hv;rw[Ax] at v3;have hil:v<s.cols.length:=by omega
     obtain⟨d1,d2⟩:=hok.cdl hil v3;obtain⟨d3,d4⟩:=(zj (hok.cs v hil)).2.2.2.1 v3;have hcl:qU s v=s.lists.getD s.cols[v].list.toNat default:=by rw[qU,hat v hil]
     have hnd:=fun k=>zT6 (k:=k) hv;rw[hat v hil] at d1 d3 d4;rw[hcl,qj d1] at d2 hnd;obtain⟨_,d5,d6⟩:=zm d2;obtain⟨w,b4,w1,w2,hb4,sQ⟩:=yZ l b3 s.lists[s.cols[v].list.toNat].codes.length hl hb3 oM;refine XE.mp (fun _ _=>C1.draw 0 l b2 _ sV rfl rfl rfl) ?_;simp only[tZ,↓uU,simprocAttr,Ax,qd hil,qd d1];refine XE.sd oM (XE.sd oM ?_);refine XE.mp (fun _ _=>C1.draw 0 l b3 _ sQ rfl rfl rfl) ?_;refine sW ?_;refine XE.sd kR ?_;refine XE.fin (.mk 2 v w 0 0 [],b4) ⟨yd _ (hnd w w1 w2) rfl,hb4⟩ fun e ⟨_,hst⟩=>?_;exact .oA (U1 0) []
    ·refine XE.brN (fun h2=>?_) (fun h2=>?_)
     ·refine XE.brN (fun _=>?_) (fun k=>absurd h2 k);obtain⟨v,b3,hv,hb3,sV⟩:=QG s hd l b2 hl hb2;obtain⟨_,v2,v3⟩:=zu.1 hv;rw[Ax] at v3;have hil:v<s.cols.length:=by omega
      obtain⟨_,hM⟩:=hd.col hil v3;have hlo:=hM.low;rw[hat v hil] at hlo;obtain⟨w,b4,w1,w2,hb4,sQ⟩:=qf0 l b3 (-3) 40 hl hb3 oM oM;obtain⟨z,b5,z1,z2,hb5,sZ⟩:=yZ l b4 30 hl hb4 oM;have hw1:IntKind.i64.wrap (s.cols[v].low+w)=s.cols[v].low+w:=AK _ oM;have hw2:IntKind.i64.wrap (s.cols[v].low+w+z)=s.cols[v].low+w+z:=AK _ oM;refine XE.mp (fun _ _=>C1.draw 0 l b2 _ sV rfl rfl rfl) ?_;simp only[tZ,↓uU,simprocAttr,Ax,qd hil];refine XE.sd oM ?_;refine XE.mp (fun _ _=>C1.draw 0 l b3 _ sQ rfl rfl rfl) ?_;simp only[tZ,↓uU,simprocAttr,hw1];refine XE.sd kR ?_;refine XE.mp (fun _ _=>C1.draw 0 l b4 _ sZ rfl rfl rfl) ?_;simp only[tZ,↓uU,simprocAttr,hw2];refine XE.fin (.mk 3 v 0 (s.cols[v].low+w) (s.cols[v].low+w+z) [],b5) ⟨yd _ (qh1 hv oM oM oM) rfl,hb5⟩ fun e ⟨_,hst⟩=>?_;exact .oA (U1 0) []
     ·refine XE.brN (fun h3=>?_) (fun h3=>?_)
      ·obtain⟨v,b3,hv,hb3,sV⟩:=QG s hd l b2 hl hb2;obtain⟨_,v2,v3⟩:=zu.1 hv;rw[Ax] at v3;have hil:v<s.cols.length:=by omega
       obtain⟨_,hM⟩:=hd.col hil v3;have hlo:=hM.low;rw[hat v hil] at hlo;obtain⟨w,b4,w1,w2,hb4,sQ⟩:=qf0 l b3 (-3) 40 hl hb3 oM oM;obtain⟨z,b5,z1,z2,hb5,sZ⟩:=yZ l b4 30 hl hb4 oM;have hw1:IntKind.i64.wrap (s.cols[v].low+w)=s.cols[v].low+w:=AK _ oM;have hw2:IntKind.i64.wrap (s.cols[v].low+w+z)=s.cols[v].low+w+z:=AK _ oM;refine XE.mp (fun _ _=>C1.draw 0 l b2 _ sV rfl rfl rfl) ?_;simp only[tZ,↓uU,simprocAttr,Ax,qd hil];refine XE.sd oM ?_;refine XE.mp (fun _ _=>C1.draw 0 l b3 _ sQ rfl rfl rfl) ?_;simp only[tZ,↓uU,simprocAttr,hw1];refine XE.sd kR ?_;refine XE.mp (fun _ _=>C1.draw 0 l b4 _ sZ rfl rfl rfl) ?_;simp only[tZ,↓uU,simprocAttr,hw2];refine XE.fin (.mk 3 v 0 (s.cols[v].low+w) (s.cols[v].low+w+z) [],b5) ⟨yd _ (qh1 hv oM oM oM) rfl,hb5⟩ fun e ⟨_,hst⟩=>?_;exact .oA (U1 0) []
      ·refine XE.brN (fun h4=>?_) (fun h4=>?_)
       ·obtain⟨v,b3,hv,hb3,sV⟩:=QG s hd l b2 hl hb2;obtain⟨_,v2,v3⟩:=zu.1 hv;rw[Ax] at v3;have hil:v<s.cols.length:=by omega
        refine XE.mp (fun _ _=>C1.draw 0 l b2 _ sV rfl rfl rfl) ?_;simp only[tZ,↓uU,simprocAttr,Ax,qd hil];refine XE.sd oM ?_;refine XE.brB (fun h5=>?_) (fun h5=>?_)
        ·refine XE.fin (.mk 4 v 0 0 0 [],b3) ⟨yd _ (jq0 hv (by rw[hat v hil];exact h5)) rfl,hb3⟩ fun e ⟨_,hst⟩=>?_;exact .oA (U1 0) []
        ·refine XE.fin (.mk 1 0 0 0 0 [],b3) ⟨yd _ (qU0 s) rfl,hb3⟩ fun e ⟨_,hst⟩=>?_;exact .oA (U1 0) []
       ·refine XE.fin (.mk 1 0 0 0 0 [],b2) ⟨yd _ (qU0 s) rfl,hb2⟩ fun e ⟨_,hst⟩=>?_;exact .oA (U1 0) []
theorem qU1 (s:Sch) (kind:Int):(KX s kind).Nodup:=by
 unfold KX Yu;show List.Pairwise (·≠·) _;rw[List.pairwise_map];exact ((List.nodup_range).filter _).imp fun h e=>h oM
theorem DrS.code2 {s:Sch} (h:DrS s):(KX s 2).length≤2:=by
 obtain⟨ms,hc,h1,h3⟩:=h.cs;have key:∀ (pre:List Col) (n:Nat),s.cols=pre++ms→(∀ j (hj:j<ms.length),DrM (n+j) ms[j])→(KX s 2).length=(Yu s 2 pre.length).length:=by
  intro pre n he hm;unfold KX;have k2:∀ m,pre.length+m≤s.cols.length→(Yu s 2 (pre.length+m)).length=(Yu s 2 pre.length).length:=by
   intro m
   induction m with
   | zero=>intro _;rfl
   | succ m ih=>
     intro hle;have hl:m<ms.length:=by rw[he,AW] at hle;omega
     have hk:(qg s (pre.length+m)).kind=3:=by
      rw[qg,he,CY,BJ oM,Nat.add_sub_cancel_left,CK hl];exact (hm m hl).kind
     rw[← Nat.add_assoc,kp,Aq (by rw[hk];decide),CW];exact ih oM
  have:=k2 ms.length (by rw[he,AW];omega);rw[← AW,← he] at this;exact this
 rcases hc with⟨hc,hm⟩ | ⟨hc,hm⟩
 ·rw[key [whoC,sexC] 2 (by rw[hc];rfl) hm];have:=kp s 2 1;have h0:=kp s 2 0;have e0:(qg s 0).kind=1:=by rw[qg,hc];rfl
  rw[e0] at h0;show (Yu s 2 (1+1)).length≤2;have:=qv9 s 2 2;omega
 ·rw[key [whoC,sexC,jobC] 3 (by rw[hc];rfl) hm];have h2:=kp s 2 2;have h1:=kp s 2 1;have h0:=kp s 2 0;have e0:(qg s 0).kind=1:=by rw[qg,hc];rfl
  have e1:(qg s 1).kind=2:=by rw[qg,hc];rfl
  have e2:(qg s 2).kind=2:=by rw[qg,hc];rfl
  rw[e0,Aq (by decide)] at h0;rw[e1,Aj rfl] at h1;rw[e2,Aj rfl] at h2;show (Yu s 2 (2+1)).length≤2;rw[h2,h1,h0];simp [Yu]
structure DimOk (s:Sch) (L:List Int) (l:List Pk):Prop where
 cols:l.map (·.col)=L
 pick:∀ p∈l,wD s p=0
theorem DimOk.dims {s:Sch} {L:List Int} {l:List Pk} (h:DimOk s L l) (h1:1≤L.length) (h2:L.length≤3) (hn:L.Nodup) (hc:∀ v∈L,isB s v 2=true):JF s l=0:=by
 have hl:l.length=L.length:=by rw[← h.cols,BY]
 rw[JF,Aq oM];refine Wv fun i hi=>?_;have hpi:pkAt l i=l[i]:=by rw[pkAt,qj hi]
 have hm:l[i]∈l:=AX hi;rw[dimE,hpi,Aq (by rw[h.pick _ hm];simp),Aq (by rw[hc _ (by rw[← h.cols];exact List.mem_map_of_mem hm)];simp),Aq];intro k;obtain⟨x,hx,e⟩:=DJ.1 k;obtain⟨j,hj,rfl⟩:=List.mem_take_iff_getElem.1 hx;rw[← h.cols] at hn;have:=DX.1 hn j i (by simp;omega) (by simp;omega) oM;simp only[Fk] at this;exact this (AY.1 e)
theorem zI1 {s:Sch} (hE:schE s=0) {v:Nat} (h:isB s v 2=true∨isB s v 3=true):1≤v∧v<s.cols.length∧0≤finI s v∧finI s v≤59:=by
 have hok:=qV hE;have hb:∃ k,2≤k∧isB s v k=true:=by rcases h with h | h <;> exact⟨_,oM,h⟩
 obtain⟨k,hk,hb⟩:=hb;obtain⟨_,b2,b3⟩:=zu.1 hb;rw[Ax] at b3;have hv:v≠0:=fun e=>by subst e;have:=hok.c0;omega
 refine⟨oM,oM,?_,JH hE⟩;rw[finI,Aq oM,Ax];split
 ·rename_i h2;have:=zT0 (hok.cdl oM h2).2;omega
 ·omega
theorem wl (s:Sch) (hd:DrS s) (l:List UInt8) (a:Nat) (hl:l.length≤400) (ha:a≤l.length) :
 ∃ r:List Pk×Nat,(JF s r.1=0∧r.2≤l.length)∧Sp 120 [.ptr 0 1 0 0,schT s] [(0,oC l a)] (vPs r.1) [(0,oC l r.2)]:=by
 have hE:=hd.ok;have hok:=qV hE;have hnc:=hok.nc;have hc:=QN s 2 oM;have hm:=fun v=>(JJ (s:=s) (kind:=2) (v:=v)).1;have hnd:=qU1 s 2;have hc2:=hd.code2;obtain⟨k1,k2⟩:=hd.code;generalize KX s 2=L at hc hm hnd hc2 k1 k2;obtain⟨o,a1,ha1,sO⟩:=jA3 l a 2 hl ha oM;obtain⟨j,a2,j1,j2,ha2,sN⟩:=yZ l a1 L.length hl ha1 oM;obtain⟨m,rfl⟩:=AJ j1;refine jB qs4 mixm (fun r:List Pk×Nat=>vPs r.1) (fun r=>[(0,oC l r.2)]) sMp ?_;unfold yG;refine sW ?_;refine XE.mp (fun _ _=>C1.im hc rF rF) ?_;refine sW ?_;refine XE.mp (fun _ _=>C1.draw 0 l a _ sO rfl rfl rfl) ?_;refine sW ?_;refine XE.brB (fun ho=>?_) (fun ho=>?_)
 focus
  refine XE.mp (fun _ _=>C1.draw 0 l a1 _ sN rfl rfl rfl) ?_;simp only[tZ,↓uU,simprocAttr,qc1,jy3];have hmd:∀ v∈L.drop m,isB s v 2=true:=fun v hv=>hm v (EY hv);have hnd2:(L.drop m).Nodup:=hnd.sublist (List.drop_sublist m L);have hl2:1≤(L.drop m).length∧(L.drop m).length≤2:=by rw[List.length_drop];omega
  generalize L.drop m=M at hmd hnd2 hl2 ⊢
  obtain⟨b,hb⟩:∃ b,b=a2:=⟨_,rfl⟩;rw[← hb];have hb:b≤l.length:=by omega
  refine XE.sd oM ?_
 rotate_left
 focus
  have hmd:=hm;have hnd2:=hnd;have hl2:1≤L.length∧L.length≤2:=by omega
  obtain⟨M,hM⟩:∃ M,M=L:=⟨_,rfl⟩;rw[← hM] at hmd hnd2 hl2 ⊢
  obtain⟨b,hb⟩:∃ b,b=a1:=⟨_,rfl⟩;rw[← hb];have hb:b≤l.length:=by omega
 all_goals (
  refine XE.loopF mixm [5,20] (fun y:List Pk×Nat=>y.1.length≤M.length∧DimOk s (M.take y.1.length) y.1∧y.2≤l.length) (fun y=>[(5,.asl 1 y.1.length),(20,vI y.1.length)]) (fun y=>[(0,oC l y.2),aR 4096 2 [schT s],aR 1 2 (y.1.map pkT)]) (fun y=>M.length-y.1.length) ([],b) ⟨sMp,⟨rfl,sMp⟩,hb⟩ (fun e ⟨_,hst⟩=>?_) fun T' y hy ih=>?_
  ·exact .oA [uI 0,uI 4096,(1,none)] []
  obtain⟨ps,a4⟩:=y;obtain⟨y1,y2,y3⟩:=hy;dsimp only at y1 y2 y3;simp only[tZ,↓uU,simprocAttr,AZ,Ay];refine XE.brN (fun h4=>?_) (fun h4=>?_)
  ·have hi2:ps.length<M.length:=by omega
   have hwi:=qh (i:=ps.length) oM;have hiB:=hmd _ (AX hi2);have htk:=qS hi2;obtain⟨v,hv⟩:=AJ (zu.1 hiB).1;have hgv:(M.map vI).getD ps.length .junk=vI v:=by rw[qd hi2,hv]
   rw[hv] at hiB htk;obtain⟨f1,f2,f3,f4⟩:=zI1 hE (.inl hiB);have hFin:=ko s hok.sm v;obtain⟨w,a5,w1,w2,hw,sQ⟩:=yZ l a4 (finI s v+1) hl y3 oM;have hwf:IntKind.i64.wrap (finI s v+1)=finI s v+1:=AK _ oM;simp only[tZ,↓uU,simprocAttr,Ax,hgv];refine XE.sd oM (XE.sd oM ?_);refine XE.mp (fun _ _=>C1.im hFin rF rF) ?_;simp only[tZ,↓uU,simprocAttr,hwf];refine XE.mp (fun _ _=>C1.draw 0 l a4 _ sQ rfl rfl rfl) ?_;simp only[tZ,↓uU,simprocAttr,hwi];refine XE.sd oM (XE.sd kR ?_);refine XE.next ih (ps++[⟨v,w⟩],a5) ⟨by simp;omega,⟨?_,fun p hp=>?_⟩,hw⟩ (by simp;omega) fun e ⟨_,hst⟩=>?_
   ·dsimp only;rw[AW,By,y2.cols];exact htk.symm
   ·rcases Dz.1 hp with hp | hp
    ·exact y2.pick p hp
    ·rw[EZ.1 hp,wD,Aq (by rw[hE];simp),Aq (by dsimp only;omega),Aq];rw[Ez,yi];dsimp only;omega
   ·exact .oA (U3 0 4096 1) []
  ·have hil:ps.length=M.length:=by omega
   rw[hil,Bw] at y2;refine XE.fin (ps,a4) ⟨y2.dims hl2.1 oM hnd2 hmd,y3⟩ fun e ⟨_,hst⟩=>?_;exact .oA (U1 0) [1]
  )
theorem yj (s:ByteArray):Sp 100 [vS s] [] (vB (jE s)) []:=by
 refine sIr zk9 fun e _ hst=>?_;unfold WX;refine sW ?_;refine⟨fun h=>?_,fun h=>?_,fun h=>?_,fun h=>?_⟩
 ·simp at h;omega
 ·simp at h;omega
 ·have:jE s=false:=by unfold jE zH9;rw[h];rfl
  rw[this];exact .oA [] []
 have hd:zH9 s=false:=h;have hs16:s.data.toList.length≤16:=by
  unfold zH9 at hd;simp only[FQ,Ay] at hd;have:s.size=s.data.toList.length:=by rw[Array.length_toList];rfl
  omega
 refine qt mixm (α:=Nat) [26] (fun i=>i≤s.data.toList.length∧((s.data.toList.take i).any qS3=false)) (fun i=>[(26,vI i)]) (fun i=>[]) (fun i=>s.data.toList.length-i) 0 ⟨oM,?_⟩ ?_ fun i hi=>?_
 ·rfl
 ·exact .oA [] []
 refine sD ?_;refine⟨fun h5=>?_,fun h5=>?_⟩
 ·have hi2:i<s.data.toList.length:=by omega
  have hwi:=qh (i:=i) oM;simp only[tZ,↓uU,simprocAttr,Ax,qd hi2,hwi,Qm];refine⟨oM,fun h6=>?_,fun h6=>?_⟩
  ·have hb:qS3 s.data.toList[i]=true:=h6;have:jE s=false:=by
    unfold jE;rw[show s.data.toList.any qS3=true from DJ.2 ⟨_,AX hi2,hb⟩];simp
   rw[this];exact .oA [] []
  ·have hb:qS3 s.data.toList[i]=false:=h6;refine⟨i+1,⟨oM,zS hi2 hi.2 hb⟩,oM,?_⟩;exact .oA [] []
 ·have h3:=hi.2;have:i=s.data.toList.length:=by omega
  rw[this,Bw] at h3;have hn:jE s=!(resW.contains s.toList):=by unfold jE;rw[hd,h3];rfl
  rw[hn];simp only[resW,List.contains_cons,List.contains_nil]
  repeat' (first | with_reducible apply Az | with_reducible intro _)
  all_goals first
   | (exfalso;simp_all;done)
   | (simp only[*,Bool.true_or,Bool.or_true,Bool.false_or,Bool.or_false,Bool.not_true,Bool.not_false];exact .imR rfl rfl)
def depL (cs:List Cod):List Int:=(List.range cs.length).map fun i=>(dep cs i:Int)
def depO (cs:List Cod) (i:Nat):List Int:=((List.range i).map fun i=>(dep cs i:Int))++List.replicate (cs.length-i) 0
theorem qh2 (cs:List Cod):(depL cs).length=cs.length:=by simp [depL]
theorem jA4 {cs:List Cod} {i:Nat} (h:i≤cs.length):(depO cs i).length=cs.length:=by simp [depO];omega
theorem jq2 (cs:List Cod):depO cs 0=List.replicate cs.length 0:=by simp [depO]
theorem jA5 (cs:List Cod):depO cs cs.length=depL cs:=by simp [depO,depL]
theorem jA6 {cs:List Cod} {i:Nat} (h:i<cs.length) (v:Int) (hv:v=dep cs i):(depO cs i).set i v=depO cs (i+1):=by
 unfold depO;rw[List.set_append_right _ _ sMp,BY,List.length_range,Nat.sub_self,show cs.length-i=(cs.length-(i+1))+1 by omega,List.replicate_succ,List.set_cons_zero,List.range_succ,By,Dj,hv]
 rfl
theorem jq3 {cs:List Cod} {i:Nat} (h:i<cs.length) (h0:dep cs i=0):depO cs i=depO cs (i+1):=by
 unfold depO;rw[show cs.length-i=(cs.length-(i+1))+1 by omega,List.replicate_succ,List.range_succ,By,Dj,List.map_cons,h0]
 rfl
theorem jP2 {cs:List Cod} {i k:Nat} (h:k<i) (hi:i≤cs.length):(depO cs i).getD k 0=dep cs k:=by
 unfold depO;rw[CY,BK (by simp;omega),DY,List.getElem?_range oM]
 rfl
theorem jJ8 (n:Nat):List.replicate n (T.v (Value.int IntKind.i64 0))=(List.replicate n (0:Int)).map vI:=by simp
structure ParR (cs:List Cod):Prop where
 ok:qJ2 cs
 kid:∀ i,0<i→i<cs.length→0≤parC cs i
 root:parC cs 0<0∨cs.length=0
 len:cs.length≤60
theorem wH (l:CodL) (h:ParR l.codes):Sp 217 [cdlT l] [] (vIs (depL l.codes)) []:=by
 have hl:=h.len;refine sIr qS0 fun e _ hst=>?_;unfold Jx;refine sW ?_;refine⟨oM,?_⟩;refine qt mixm (α:=Nat) [13] (fun i=>i≤l.codes.length) (fun i=>[(13,vI i)]) (fun i=>[aR 4096 2 [cdlT l],aR 8204 1 ((depO l.codes i).map vI)]) (fun i=>l.codes.length-i) 0 oM ?_ fun i hi=>?_
 ·rw[jq2];refine .of (U2 4096 8204) [] rfl (by first | rfl | (rw[hst];rfl)) ?_ ?_
  all_goals (try simp only[tL,simprocAttr,By,List.map_cons,List.map_nil,BW,Cy,Ax,jJ8])
  all_goals (try (exact clA))
 have hol:=jA4 (cs:=l.codes) hi;refine sD ?_;refine⟨fun h2=>?_,fun h2=>?_⟩
 ·have hi2:i<l.codes.length:=by omega
  have hwi:=qh (i:=i) oM;have hp:=h.ok i hi2;have hat:cdAt l.codes i=l.codes[i]:=by rw[cdAt,qj hi2]
  have hpar:l.codes[i].par=parC l.codes i:=by rw[parC,hat]
  simp only[tZ,↓uU,simprocAttr,Ax,qd hi2,hpar,gt_iff_lt,tD];refine⟨oM,fun h4=>?_,fun h4=>?_⟩
  ·have hk:=h.kid i oM hi2;have hdk:=qB6 h.ok hi2 hk;obtain⟨q,hq⟩:=AJ hk;have hqi:q<i:=by omega
   have hq3:q<(depO l.codes i).length:=by omega
   have hq4:(depO l.codes i)[q]=dep l.codes q:=by
    have:=jP2 (cs:=l.codes) hqi hi;rw[qj hq3] at this;exact this
   have hdl:=qE9 h.ok q oM;have hwd:=qh (i:=dep l.codes q) oM;rw[hq,Ax] at hdk;have hi3:i<(depO l.codes i).length:=by omega
   have hset:=jA6 hi2 ((dep l.codes q+1:Nat):Int) (by rw[hdk]);simp only[tZ,↓uU,simprocAttr,hq,Ax,qd hq3,qd hi3,hq4,hwd,hwi,show ∀ a b:Int,repl (vI a) 0 (vI b)=vI b from fun _ _=>rfl];refine⟨oM,oM,oM,oM,i+1,oM,oM,?_⟩;rw[← List.map_set,hset];exact .oA (U2 4096 8204) []
  ·have hz:i=0:=by omega
   subst hz;have hr:=h.root.resolve_right oM;have hn:=jq3 hi2 (qu4 hr);simp only[tZ,↓uU,simprocAttr,hwi];refine⟨1,oM,oM,?_⟩;rw[← hn];exact .oA (U2 4096 8204) []
 ·have hil:i=l.codes.length:=by omega
  subst hil;rw[jA5,Ax];have hdl:=qh2 l.codes;exact .oA [] [8204]
def aboL (cs:List Cod) (i:Nat):List Bool:=(List.range cs.length).map fun (k:Nat)=>(cs.take i).any fun x=>x.par==(k:Int)
theorem Yv (cs:List Cod) (i:Nat):(aboL cs i).length=cs.length:=by simp [aboL]
theorem jq4 (cs:List Cod):aboL cs 0=List.replicate cs.length false:=by
 rw[List.eq_replicate_iff];refine⟨Yv cs 0,fun b hb=>?_⟩;obtain⟨k,_,rfl⟩:=Cj.1 hb;simp
theorem qw1 {cs:List Cod} {i k:Nat} (h:k<(aboL cs i).length):(aboL cs i)[k]=(cs.take i).any fun x=>x.par==(k:Int):=by simp [aboL]
theorem jq5 {cs:List Cod} {i:Nat} (h:i<cs.length) (hp:cs[i].par<0):aboL cs (i+1)=aboL cs i:=by
 refine List.ext_getElem (by rw[Yv,Yv]) fun k h1 h2=>?_;have h3:(cs[i].par==(k:Int))=false:=Ak.2 oM;rw[qw1,qw1,qS h,FY,List.any_cons,List.any_nil,h3];simp
theorem jA7 {cs:List Cod} {i p:Nat} (h:i<cs.length) (hp:cs[i].par=p):(aboL cs i).set p true=aboL cs (i+1):=by
 refine List.ext_getElem (by rw[Fy,Yv,Yv]) fun k h1 h2=>?_;rw[Fw,qw1,qw1,qS h,FY,List.any_cons,List.any_nil,hp];by_cases e:p=k
 ·subst e;simp
 ·have:((p:Int)==(k:Int))=false:=Ak.2 oM;rw[Aq e,this];simp
theorem jA8 {cs:List Cod} {k:Nat} (h:k<(aboL cs cs.length).length):(aboL cs cs.length)[k]=!qo2 cs k:=by
 rw[qw1,Bw,qo2,Bool.not_not]
theorem jV4 (n:Nat):List.replicate n (T.v (Value.bool false))=(List.replicate n false).map vB:=by simp
def zI2 (cs:List Cod):List (ByteArray×Bool):=cs.map fun c=>(c.name,true)
theorem zB5 {nm:ByteArray}:∀ {cs:List Cod},(TL.look TL.eqS nm (zI2 cs)).getD false=cs.any fun x=>eqB x.name nm
 | []=>rfl
 | c::cs=>by
   have h:TL.eqS nm c.name=eqB c.name nm:=by
    rw[Bool.eq_iff_iff,TL.eqS,eqB,AY,AY];exact⟨fun h=>h.symm,fun h=>h.symm⟩
   simp only[zI2,List.map_cons,TL.look,List.any_cons,h];cases eqB c.name nm with
   | true=>rfl
   | false=>rw[Aq sMp,Bool.false_or];exact zB5
theorem zT7 {c:Cod}:∀ {cs:List Cod},(cs.any fun x=>eqB x.name c.name)=false→TL.asg TL.eqS c.name true (zI2 cs)=zI2 (cs++[c])
 | [],_=>rfl
 | x::cs,h=>by
   rw[List.any_cons,FQ] at h;have h1:TL.eqS c.name x.name=eqB x.name c.name:=by
    rw[Bool.eq_iff_iff,TL.eqS,eqB,AY,AY];exact⟨fun h=>h.symm,fun h=>h.symm⟩
   simp only[zI2,List.map_cons,TL.asg,h1,h.1,BW];rw[Aq sMp]
   congr 1
   exact zT7 h.2
theorem jV5 {cs:List Cod} (h:cdEs cs cs.length=0) (hl:cs.length≤60):ParR cs:=by
 refine⟨jJ4 h,fun i h0 hi=>(zm4 (qu5 h i hi)).2.2.2 h0,?_,hl⟩;rcases DQ cs.length with h0 | h0
 ·exact .inr h0
 ·have:=(zm4 (qu5 h 0 h0)).2.2.1 rfl;exact .inl oM
theorem qw2 {l:CodL} (h:lstE l=0):ParR l.codes:=by
 obtain⟨_,_,h3⟩:=zm h;refine jV5 ?_ h3;unfold lstE at h;split at h
 ·cases h
 ·split at h
  ·cases h
  ·split at h
   ·cases h
   ·split at h
    ·rename_i h2;exact absurd h h2
    ·rename_i h4;exact AQ h4
theorem ZS (l:CodL):Sp 167 [cdlT l] [] (vI (lstE l)) []:=by
 refine sIr za9 fun e _ hst=>?_;unfold KL;refine sW ?_;refine C1.im (yj l.name) rF rF ?_;simp only[tZ,↓uU,simprocAttr,Bx,Bz];refine⟨fun h=>?_,fun h1=>?_⟩
 ·rw[lstE,Aj h];exact .oA [] []
 simp only[tZ,↓uU,simprocAttr,AY,Ak];refine⟨fun h=>?_,fun h2=>?_⟩
 ·rw[lstE,Aq (by rw[h1];simp),Aj oM];exact .oA [] []
 refine sD ?_;refine⟨fun h=>?_,fun h3=>?_⟩
 ·rw[lstE,Aq (by rw[h1];simp),Aq oM,Aj oM];exact .oA [] []
 have hE1:cdEs l.codes l.codes.length≠0→lstE l=cdEs l.codes l.codes.length:=fun h=>by
  rw[lstE,Aq (by rw[h1];simp),Aq oM,Aq oM,Aj h]
 have hE2:cdEs l.codes l.codes.length=0→lvs l.codes l.codes.length=none→lstE l=5:=fun h k=>by
  rw[lstE,Aq (by rw[h1];simp),Aq oM,Aq oM,Aq (by rw[h];simp),k]
 have hE3:∀ v,cdEs l.codes l.codes.length=0→lvs l.codes l.codes.length=some v→lstE l=0:=fun v h k=>by
  rw[lstE,Aq (by rw[h1];simp),Aq oM,Aq oM,Aq (by rw[h];simp),k]
 refine⟨oM,kR,?_⟩;refine qt mixm (α:=Nat) [33] (fun i=>i≤l.codes.length∧cdEs l.codes i=0) (fun i=>[(33,vI i)]) (fun i=>[aR 4096 2 [cdlT l],(32768,.mp (.sb (zI2 (l.codes.take i)))),aR 32784 1 ((aboL l.codes i).map vB)]) (fun i=>l.codes.length-i) 0 ⟨oM,rfl⟩ ?_ fun i hi=>?_
 ·simp only[List.take_zero,zI2,List.map_nil,jq4];refine .of (U3 4096 32768 32784) [] rfl (by first | rfl | (rw[hst];rfl)) ?_ ?_
  all_goals (try simp only[tL,simprocAttr,By,List.map_cons,List.map_nil,BW,Cy,Ax,jV4])
  all_goals (try (exact clA))
 obtain⟨i1,i2⟩:=hi;have hbl:=Yv l.codes i;refine sD ?_;refine⟨fun h4=>?_,fun h4=>?_⟩
 ·have hi2:i<l.codes.length:=by omega
  have hwi:=qh (i:=i) oM;have hat:cdAt l.codes i=l.codes[i]:=by rw[cdAt,qj hi2]
  have hs:cdEs l.codes (i+1)=cdE l.codes i:=by rw[cdEs,Aq (by rw[i2];simp)]
  have hbad:cdE l.codes i≠0→lstE l=cdE l.codes i:=fun hb=>by
   have:=zg4 (by rw[hs];exact hb) l.codes.length (show i+1≤l.codes.length by omega);rw[hE1 (by rw[this,hs];exact hb),this,hs]
  simp only[tZ,↓uU,simprocAttr,Ax,qd hi2];refine⟨oM,?_⟩;refine C1.im (yj l.codes[i].name) rF rF ?_;simp only[tZ,↓uU,simprocAttr,Bx,Bz,zB5];refine⟨fun h5=>?_,fun h5=>?_⟩
  ·have hc:cdE l.codes i=3:=by rw[cdE,hat,Aj h5]
   rw[hbad (by rw[hc];decide),hc];exact .oA [] []
  refine⟨fun h6=>?_,fun h6=>?_⟩
  ·have hc:cdE l.codes i=10:=by rw[cdE,hat,Aq (by rw[h5];simp),Aj h6]
   rw[hbad (by rw[hc];decide),hc];exact .oA [] []
  have hpar:l.codes[i].par=parC l.codes i:=by rw[parC,hat]
  have hcE:cdE l.codes i=if (i=0∧parC l.codes i≠-1)∨(0<i∧(parC l.codes i<0∨parC l.codes i≥i)) then 6 else 0:=by
   rw[cdE,hat,Aq (by rw[h5];simp),Aq (by rw[h6];simp)]
  have hasg:=zT7 (c:=l.codes[i]) (cs:=l.codes.take i) h6;rw[← qS hi2] at hasg;simp only[tZ,↓uU,simprocAttr,hasg,hpar,tD,AY,Ak,Bj,Aw];refine⟨fun h7=>?_,fun h7=>?_⟩
  ·have hc:cdE l.codes i=6:=by rw[hcE,Aj oM]
   rw[hbad (by rw[hc];decide),hc];exact .oA [] []
  have hc0:cdEs l.codes (i+1)=0:=by rw[hs,hcE,Aq oM]
  refine⟨fun h8=>?_,fun h8=>?_⟩
  ·obtain⟨q,hq⟩:=AJ (show 0≤parC l.codes i by omega);have hq3:q<(aboL l.codes i).length:=by omega
   have hset:=jA7 (p:=q) hi2 (by rw[hpar,hq]);simp only[hq,Ax,qd hq3,show ∀ a b:Bool,repl (vB a) 0 (vB b)=vB b from fun _ _=>rfl,hwi];refine⟨⟨oM,oM,oM⟩,⟨oM,oM,rfl⟩,i+1,⟨oM,hc0⟩,oM,?_⟩;rw[← List.map_set,hset];exact .oA (U3 4096 32768 32784) []
  ·have hsk:=jq5 hi2 oM;simp only[hwi];refine⟨i+1,⟨oM,hc0⟩,oM,?_⟩;rw[hsk];exact .oA (U3 4096 32768 32784) []
 ·have hil:i=l.codes.length:=by omega
  subst hil;have hP:=jV5 i2 oM;have hdl:=qh2 l.codes;refine C1.im (wH l hP) rF rF ?_;refine sW ?_;have hbl:=Yv l.codes l.codes.length;refine qt mixm (α:=Nat×Int) [7,84] (fun x=>x.1≤l.codes.length∧lvs l.codes x.1=some x.2) (fun x=>[(7,vI x.2),(84,vI x.1)]) (fun x=>[aR 32784 1 ((aboL l.codes l.codes.length).map vB)]) (fun x=>l.codes.length-x.1) (0,-1) ⟨sMp,rfl⟩ ?_ fun x hx=>?_
  ·rw[Ax];exact .oA (U1 32784) []
  obtain⟨j,v⟩:=x;obtain⟨j1,j2⟩:=hx;dsimp only at j1 j2;refine sD ?_;refine⟨fun h5=>?_,fun h5=>?_⟩
  ·have hj2:j<l.codes.length:=by omega
   have hwj:=qh (i:=j) oM;have hs:=qK7 l.codes j;rw[j2,lvS] at hs;have hj3:j<(depL l.codes).length:=by omega
   have hj4:j<(aboL l.codes l.codes.length).length:=by omega
   have hd1:(depL l.codes)[j]=dep l.codes j:=by simp [depL]
   have ha1:=jA8 hj4;simp only[tZ,↓uU,simprocAttr,Ax,qd hj3,qd hj4,hd1,ha1,hwj,Bx,Bz,tD,Bj,Aw];refine⟨oM,oM,oM,fun h6=>?_,fun h6=>?_⟩
   ·rw[Aq (by rw[h6];simp)] at hs;refine⟨(j+1,v),⟨by dsimp only;omega,hs⟩,by dsimp only;omega,?_⟩;exact .oA (U1 32784) []
   ·rw[Aj h6] at hs;refine⟨fun h7=>?_,fun h7=>?_⟩
    ·rw[Aj oM] at hs;rw[hE2 i2 (zT1 hs _ oM)];exact .oA [] []
    ·rw[Aq oM] at hs;refine⟨(j+1,(dep l.codes j:Int)),⟨by dsimp only;omega,hs⟩,by dsimp only;omega,?_⟩;exact .oA (U1 32784) []
  ·have hjl:j=l.codes.length:=by omega
   subst hjl;rw[hE3 v i2 j2];exact .oA [] []
end Go.Proofs
