/- A part of the proof: trees of Go values, short forms, contracts. -/
import Derived.Test.YthbdcffpkbmlaaaGreatDoorK18
namespace Go.Proofs
open Go Go.TL
set_option maxRecDepth 4000
set_option maxHeartbeats 4000000
def d36:ByteArray:=⟨#[48,49,50,51,52,53,54,55,56,57,97,98,99,100,101,102,103,104,105,106,107,108,109,110,111,112,113,114,115,116,117,118,119,120,121,122]⟩
theorem qR4 {a b:ByteArray} (h:a.data.toList=b.data.toList):a=b:=by
 cases a;cases b;exact congrArg ByteArray.mk (Array.ext' h)
def dgS (n:Nat):ByteArray:=⟨#[dgt n]⟩
theorem jU1 (n:Nat) (h:n<10):d36.extract n (n+1)=dgS n:=by
 have:((List.range 10).all fun n=>(d36.extract n (n+1)).data.toList==(dgS n).data.toList)=true:=by decide +kernel
 exact qR4 (eq_of_beq (Bk.1 this n (Dk.2 h)))
theorem zL5 (c:UInt8) (n:Nat):(⟨#[c]⟩:ByteArray)++dgS n=⟨#[c,dgt n]⟩:=by
 apply qR4
 rw[ByteArray.toList_data_append]
 rfl
theorem jM9 (n:Nat) (h:n<10):Sp 182 [vI n] [] (vS (dgS n)) []:=by
 have h1:=qh (i:=n) oM;have z1:d36.size=36:=rfl;refine sIr ZA fun e _ hst=>?_;unfold jf;simp only[tZ,↓uU,simprocAttr,tD,h1,Ax];refine⟨fun h2=>?_,fun h2=>by omega⟩;refine⟨?_,?_⟩
 ·show (0≤(n:Int)∧(n:Int)≤((n+1:Nat):Int)∧((n+1:Nat):Int)≤(d36.size:Int));omega
 ·show Qx [] (vS (d36.extract n (n+1))) [] (vS (dgS n)) [];rw[jU1 n oM];exact .oA [] []
theorem zL6 (n:Nat) (h:n<10):Sp 117 [vI n] [] (vS (dgS n)) []:=by
 have h1:Sp 176 [vI n,vI 10] [] (vS (dgS n)) []:=by
  have e1:decide (0≤(n:Int))=true:=Cx oM;have e2:decide ((n:Int)<100)=true:=Cx oM;refine sIr yo fun e _ hst=>?_;unfold zJ;simp only[tZ,↓uU,simprocAttr,beq_self_eq_true,e1,e2,Fq];refine C1.im (jM9 n h) rF rF ?_;refine sW ?_;exact .oA [] []
 have h2:Sp 159 [vI n] [] (vS (dgS n)) []:=by
  refine sIr ZL fun e _ hst=>?_;unfold jj;refine sW ?_;refine C1.im h1 rF rF ?_;refine sW ?_;exact .oA [] []
 refine sIr qx7 fun e _ hst=>?_;unfold Qf;refine sW ?_;refine C1.im h2 rF rF ?_;refine sW ?_;exact .oA [] []
def oneB (l:List UInt8) (a:Nat) (n:Int):Bool:=(nx l a n).1==n-1
theorem kh (l:List UInt8) (a:Nat) (n:Int) (hl:l.length≤400) (ha:a≤l.length) (hn:0≤n∧n≤1000000):Sp 38 [.ptr 0 1 0 0,vI n] [(0,oC l a)] (vB (oneB l a n)) [(0,oC l (nx l a n).2)]:=by
 have hw:IntKind.i64.wrap (n-1)=n-1:=AK _ oM;refine sIr qh5 fun e _ hst=>?_;unfold wq;refine sW ?_;refine C1.draw 0 l a _ (zQ l a n hl ha hn.2) rfl rfl rfl ?_;simp only[tZ,↓uU,simprocAttr,hw];rw[show ((nx l a n).1==n-1)=oneB l a n from rfl];exact .oA (U1 0) []
theorem qR5 (l:List UInt8) (a:Nat) (n:Int) (hl:l.length≤400) (ha:a≤l.length) (hn:1≤n∧n≤1000000) :
 ∃ v b,0≤v∧v<n∧b≤l.length∧Sp 39 [.ptr 0 1 0 0,vI n] [(0,oC l a)] (vI v) [(0,oC l b)]:=
 ⟨_,_,(kf l a n hn.1).1,(kf l a n hn.1).2,qb0 l a n ha,zQ l a n hl ha hn.2⟩
theorem jl9 (l:List UInt8) (a:Nat) (lo hi:Int) (hl:l.length≤400) (ha:a≤l.length) (hlo : -1000000≤lo∧lo≤1000000) (hhi:lo≤hi∧hi≤lo+100000) :
 ∃ v b,lo≤v∧v≤hi∧b≤l.length∧Sp 42 [.ptr 0 1 0 0,vI lo,vI hi] [(0,oC l a)] (vI v) [(0,oC l b)]:=by
 have r:=kf l a (hi-lo+1) oM;exact⟨_,_,oM,oM,qb0 l a (hi-lo+1) ha,zD l a lo hi hl ha hlo hhi⟩
theorem jU2 (l:List UInt8) (a:Nat) (n:Int) (hl:l.length≤400) (ha:a≤l.length) (hn:0≤n∧n≤1000000) :
 ∃ o b,b≤l.length∧Sp 38 [.ptr 0 1 0 0,vI n] [(0,oC l a)] (vB o) [(0,oC l b)]:=
 ⟨_,_,qb0 l a n ha,kh l a n hl ha hn⟩
theorem jN0 (m:Nat) (h:m<4):wTab.getD m []∈wTab:=by rw[qg (by exact h)];exact AX _
theorem yr (n:Nat) (l:List UInt8) (a:Nat) (hl:l.length≤400) (ha:a≤l.length) :
 ∃ r:Col×Nat,(DrM n r.1∧r.2≤l.length)∧Sp 116 [.ptr 0 1 0 0,vS ⟨#[109,dgt n]⟩] [(0,oC l a)] (colT r.1) [(0,oC l r.2)]:=by
 have h1:=zD l a (-4) 2 hl ha oM oM;have r1:=kf l a (2 - -4+1) oM;have b1:=qb0 l a (2 - -4+1) ha;generalize nx l a (2 - -4+1)=x1 at h1 r1 b1;have h2:=zQ l x1.2 4 hl b1 oM;have r2:=kf l x1.2 4 oM;have b2:=qb0 l x1.2 4 b1;generalize nx l x1.2 4=x2 at h2 r2 b2;have h3:=kh l x2.2 3 hl b2 oM;have b3:=qb0 l x2.2 3 b2;generalize (nx l x2.2 3).2=a3 at h3 b3;generalize oneB l x2.2 3=o at h3;have h4:=zQ l a3 45 hl b3 oM;have r4:=kf l a3 45 oM;have b4:=qb0 l a3 45 b3;generalize nx l a3 45=x4 at h4 r4 b4;refine⟨(⟨⟨#[109,dgt n]⟩,3,0,-4+x1.1,-4+x1.1+x4.1,wTab.getD x2.1.toNat [],o⟩,x4.2),⟨⟨rfl,rfl,rfl,by dsimp only;omega,by dsimp only;omega,jN0 _ oM⟩,b4⟩,?_⟩;obtain⟨m,hm⟩:=AJ r2.1;have hw:IntKind.i64.wrap (-4+x1.1+x4.1) = -4+x1.1+x4.1:=AK _ oM;refine sIr KH fun e _ hst=>?_;unfold jE;refine sW ?_;refine C1.draw 0 l a _ h1 rfl rfl rfl ?_;refine sW ?_;refine C1.draw 0 l x1.2 _ h2 rfl rfl rfl ?_;rw[hm] at r2 ⊢
 rw[Ax];have hm4:m=0∨m=1∨m=2∨m=3:=by omega
 have k0:wTab.getD 0 []=[1]:=rfl;have k1:wTab.getD 1 []=[1,5]:=rfl;have k2:wTab.getD 2 []=[1,5,20]:=rfl;have k3:wTab.getD 3 []=[1,2,4,12]:=rfl;rcases hm4 with e | e | e | e
 all_goals (
  subst e;simp only[tZ,↓uU,simprocAttr,Ax,k0,k1,k2,k3]
  repeat (refine⟨oM,?_⟩)
  refine C1.draw 0 l x2.2 _ h3 rfl rfl rfl ?_;refine sW ?_;refine⟨kR,?_⟩;refine C1.draw 0 l a3 _ h4 rfl rfl rfl ?_;simp only[tZ,↓uU,simprocAttr,hw];refine⟨kR,?_⟩
  )
 ·exact .oA (U1 0) [8204]
 ·exact .oA (U1 0) [8208]
 ·exact .oA (U1 0) [8212]
 ·exact .oA (U1 0) [8216]
def addN (i:Nat):Nat→List Cod→List Cod
 | 0,cs=>cs
 | k+1,cs=>addN i k (addL cs i)
theorem qB0 (i:Nat):∀ (k:Nat) (cs:List Cod),(List.range k).foldl (fun cs _=>addL cs i) cs=addN i k cs:=by
 have key:∀ (m:List Nat) (cs:List Cod),m.foldl (fun cs _=>addL cs i) cs=addN i m.length cs:=by
  intro m
  induction m with
  | nil=>intro cs;rfl
  | cons x m ih=>intro cs;rw[Dw,ih];rfl
 intro k cs;rw[key,List.length_range]
theorem zq9:∀ (ns:List Nat) (cs:List Cod) (i n:Nat),lefL cs i (ns++[n])=addN (i+ns.length) n (lefL cs i ns)
 | [],cs,i,n=>by rw[Cy,lefL,lefL,qB0];rfl
 | x::r,cs,i,n=>by rw[BW,lefL,lefL,zq9 r _ (i+1) n,CJ,show i+1+r.length=i+(r.length+1) by omega]
theorem zL7 (i:Nat):∀ (k:Nat) (cs:List Cod),(addN i k cs).length=cs.length+k
 | 0,cs=>rfl
 | k+1,cs=>by rw[addN,zL7 i k,addL,AW];simp;omega
theorem zL8:∀ (ns:List Nat) (cs:List Cod) (i:Nat),(∀ x∈ns,x=1∨x=2)→cs.length+ns.length≤(lefL cs i ns).length∧(lefL cs i ns).length≤cs.length+2*ns.length
 | [],cs,i,_=>by rw[lefL];simp
 | x::r,cs,i,h=>by
   have h1:=zL8 r ((List.range x).foldl (fun cs _=>addL cs i) cs) (i+1) fun y hy=>h y (CQ _ hy);rw[qB0,zL7] at h1;rw[lefL,qB0,CJ];have:=h x sMp;omega
theorem ZQ (nm:ByteArray) (hnm:nm=zo1∨nm=zo2) (l:List UInt8) (a:Nat) (hl:l.length≤400) (ha:a≤l.length) :
 ∃ r:CodL×Nat,(DrL nm r.1∧r.2≤l.length)∧Sp 115 [.ptr 0 1 0 0,vS nm] [(0,oC l a)] (cdlT r.1) [(0,oC l r.2)]:=by
 have h1:=zD l a 1 3 hl ha oM oM;have r1:=kf l a (3-1+1) oM;have b1:=qb0 l a (3-1+1) ha;generalize nx l a (3-1+1)=x1 at h1 r1 b1;obtain⟨K,hK⟩:=AJ (show 0≤1+x1.1 by omega);rw[hK] at h1;have hK3:1≤K∧K≤3:=by omega
 refine wN qc9 mixm (fun r:CodL×Nat=>cdlT r.1) (fun r=>[(0,oC l r.2)]) sMp ?_;unfold kV;refine sW ?_;refine XE.mp (fun _ _=>C1.draw 0 l a _ h1 rfl rfl rfl) ?_;refine sW ?_;have hk0:(JZ 0).map codT=[.agg [vS ⟨#[116,111,112]⟩,vI (-1)]]:=rfl;have hkl:∀ i,(JZ i).length=i+1:=fun i=>by simp [JZ]
 have hks:∀ i,JZ (i+1)=JZ i++[kidC i]:=fun i=>by rw[JZ,List.range_succ,By];rfl
 refine XE.loopF mixm [7] (fun i:Nat=>i≤K) (fun i=>[(7,vI i)]) (fun i=>[(0,oC l x1.2),aR 4096 2 [cdlT default],aR 8200 2 ((JZ i).map codT),aR 8208 2 [.agg [vS nm,.asl 8200 (i+1)]]]) (fun i=>K-i) 0 oM (fun e ⟨_,hst⟩=>?_) fun T' i hi ih=>?_
 ·simp only[hk0];exact .oA (U4 0 4096 8200 8208) []
 simp only[tZ,↓uU,simprocAttr,AZ,Ay];refine XE.brN (fun h=>?_) (fun h=>?_)
 ·have hwi:=qh (i:=i) oM;refine XE.mp (fun _ _=>C1.im (zL6 i oM) rF rF) ?_;simp only[tZ,↓uU,simprocAttr,hwi];refine XE.sd (show 1+1≤9223372036854775807 by omega) (XE.sd ⟨hkl i,oM⟩ (XE.sd (hkl i) (XE.sd kR ?_)));refine XE.next ih (i+1) oM oM fun e ⟨_,hst⟩=>?_;rw[zL5,hks];exact .oA (U4 0 4096 8200 8208) []
 ·have hiK:i=K:=by omega
  subst hiK;have h2:=kh l x1.2 2 hl b1 oM;have b2:=qb0 l x1.2 2 b1;generalize (nx l x1.2 2).2=a2 at h2 b2;generalize oneB l x1.2 2=o at h2;refine XE.mp (fun _ _=>C1.draw 0 l x1.2 _ h2 rfl rfl rfl) ?_;refine sW ?_;refine XE.brB (fun h3=>?_) (fun h3=>?_)
  ·refine XE.fin (⟨nm,JZ i⟩,a2) ⟨⟨rfl,(jk2 hnm hK3).1,by rw[hkl];omega⟩,b2⟩ fun e ⟨_,hst⟩=>?_;have hkli:=hkl i;refine⟨hkl i,?_⟩;exact .oA (U1 0) [8200]
  ·refine XE.loopF mixm [8] (fun y:List Nat×Nat=>y.1.length≤i∧(∀ x∈y.1,x=1∨x=2)∧y.2≤l.length) (fun y=>[(8,vI y.1.length)]) (fun y=>[(0,oC l y.2),aR 4096 2 [cdlT default],aR 8200 2 ((lefL (JZ i) 0 y.1).map codT),aR 8208 2 [.agg [vS nm,.asl 8200 (lefL (JZ i) 0 y.1).length]]]) (fun y=>i-y.1.length) ([],a2) ⟨sMp,sMp,b2⟩ (fun e ⟨_,hst⟩=>?_) fun T2 y hy ih2=>?_
   ·have hkli:=hkl i;simp only[lefL];refine .of (U4 0 4096 8200 8208) [] rfl (by first | rfl | (rw[hst];rfl)) ?_ ?_
    all_goals (try simp only[tL,simprocAttr,By,List.map_cons,List.map_nil,BW,Cy,hkl])
    all_goals (try (exact clA))
   obtain⟨ns,a3⟩:=y;obtain⟨y1,y2,y3⟩:=hy;dsimp only at y1 y2 y3;have hll:=zL8 ns (JZ i) 0 y2;rw[hkl] at hll;simp only[tZ,↓uU,simprocAttr,AZ,Ay];refine XE.brN (fun h4=>?_) (fun h4=>?_)
   ·have h5:=zD l a3 1 2 hl y3 oM oM;have r5:=kf l a3 (2-1+1) oM;have b5:=qb0 l a3 (2-1+1) y3;generalize nx l a3 (2-1+1)=x5 at h5 r5 b5;obtain⟨M,hM⟩:=AJ (show 0≤1+x5.1 by omega);rw[hM] at h5;have hsn:=zq9 ns (JZ i) 0 M;rw[Nat.zero_add] at hsn;refine XE.mp (fun _ _=>C1.draw 0 l a3 _ h5 rfl rfl rfl) ?_;refine sW ?_;generalize lefL (JZ i) 0 ns=cs at hll hsn ⊢
    refine XE.loopF mixm [9] (fun z:Nat×List Cod=>addN ns.length z.1 z.2=addN ns.length M cs∧z.2.length+z.1=cs.length+M) (fun z=>[(9,vI z.1)]) (fun z=>[(0,oC l x5.2),aR 4096 2 [cdlT default],aR 8200 2 (z.2.map codT),aR 8208 2 [.agg [vS nm,.asl 8200 z.2.length]]]) (fun z=>z.1) (M,cs) ⟨rfl,rfl⟩ (fun e ⟨_,hst⟩=>?_) fun T3 z hz ih3=>?_
    ·exact .oA (U4 0 4096 8200 8208) []
    obtain⟨k,ds⟩:=z;obtain⟨z1,z2⟩:=hz;dsimp only at z1 z2;simp only[tZ,↓uU,simprocAttr,AZ,Ay];refine XE.brN (fun h6=>?_) (fun h6=>?_)
    ·have hwn:=qh (i:=ns.length) oM;have hwk:=kK (i:=k) oM oM;have hw1:IntKind.i64.wrap (1+(ns.length:Int))=1+(ns.length:Int):=AK _ oM;refine XE.mp (fun _ _=>C1.im (zL6 ds.length oM) rF rF) ?_;simp only[tZ,↓uU,simprocAttr,hwk,hw1];refine XE.sd (show 1+1≤9223372036854775807 by omega) (XE.sd oM (XE.sd kR ?_));refine XE.next ih3 (k-1,addL ds ns.length) ⟨?_,by dsimp only;rw[addL,AW];simp;omega⟩ (by dsimp only;omega) fun e ⟨_,hst⟩=>?_
     ·dsimp only;rw[← z1];obtain⟨j,rfl⟩:∃ j,k=j+1:=⟨k-1,oM⟩
      rfl
     ·rw[zL5];have e1:addL ds ns.length=ds++[⟨⟨#[108,dgt ds.length]⟩,1+(ns.length:Int)⟩]:=rfl;rw[e1];exact .oA (U4 0 4096 8200 8208) []
    ·have hk0:k=0:=by omega
     subst hk0;have hwn:=qh (i:=ns.length) oM;rw[addN,← hsn] at z1;simp only[tZ,↓uU,simprocAttr,hwn];refine XE.next ih2 (ns++[M],x5.2) ⟨by simp;omega,fun x hx=>?_,b5⟩ (by simp;omega) fun e ⟨_,hst⟩=>?_
     ·rcases Dz.1 hx with hx | hx
      ·exact y2 x hx
      ·rw[Ey.1 hx];omega
     ·simp only[z1,AW,CJ,Cw];rw[← z1];exact .oA (U4 0 4096 8200 8208) []
   ·have hni:ns.length=i:=by omega
    have hok:=(jk2 hnm hK3).2 ns hni y2;refine XE.fin (⟨nm,lefL (JZ i) 0 ns⟩,a3) ⟨⟨rfl,hok,by dsimp only;omega⟩,y3⟩ fun e ⟨_,hst⟩=>?_;exact .oA (U1 0) [8200]
theorem YH (l:List UInt8) (a:Nat) (hl:l.length≤400) (ha:a≤l.length) :
 ∃ r:Sch×Nat,(DrS r.1∧r.2≤l.length)∧Sp 66 [.ptr 0 1 0 0] [(0,oC l a)] (schT r.1) [(0,oC l r.2)]:=by
 obtain⟨⟨A,a1⟩,⟨dA,ha1⟩,sA⟩:=ZQ zo1 (.inl rfl) l a hl ha;obtain⟨⟨B,a2⟩,⟨dB,ha2⟩,sB⟩:=ZQ zo2 (.inr rfl) l a1 hl ha1;dsimp only at dA ha1 sA dB ha2 sB;have h1:=kh l a2 2 hl ha2 oM;have b1:=qb0 l a2 2 ha2;generalize (nx l a2 2).2=a3 at h1 b1;generalize oneB l a2 2=o at h1;have h2:=zD l a3 1 3 hl b1 oM oM;have r2:=kf l a3 (3-1+1) oM;have b2:=qb0 l a3 (3-1+1) b1;generalize nx l a3 (3-1+1)=x2 at h2 r2 b2;obtain⟨N,hN⟩:=AJ (show 0≤1+x2.1 by omega);rw[hN] at h2;refine wN Wz mixm (fun r:Sch×Nat=>schT r.1) (fun r=>[(0,oC l r.2)]) sMp ?_;unfold jT;refine sW ?_;refine XE.mp (fun _ _=>C1.draw 0 l a _ sA rfl rfl rfl) ?_;refine sW ?_;refine XE.mp (fun _ _=>C1.draw 0 l a1 _ sB rfl rfl rfl) ?_;refine sW ?_;refine XE.mp (fun _ _=>C1.draw 0 l a2 _ h1 rfl rfl rfl) ?_;refine sW ?_;refine XE.brB (fun ho=>?_) (fun ho=>?_)
 ·refine XE.mp (fun _ _=>C1.draw 0 l a3 _ h2 rfl rfl rfl) ?_;refine sW ?_;refine XE.loopF mixm [4,15] (fun y:List Col×Nat=>y.1.length≤N∧(∀ i (h:i<y.1.length),DrM (3+i) y.1[i])∧y.2≤l.length) (fun y=>[(4,vI ((N-y.1.length:Nat):Int))]) (fun y=>[(0,oC l y.2),aR 4096 2 [schT default],aR 8208 2 [cdlT A,cdlT B],aR 8220 7 (([whoC,sexC,jobC]++y.1).map colT),aR 8228 2 [.agg [.asl 8208 2,.asl 8220 (3+y.1.length)]]]) (fun y=>N-y.1.length) ([],x2.2) ⟨sMp,fun i h=>by simp at h,b2⟩ (fun e ⟨_,hst⟩=>?_) fun T' y hy ih=>?_
  ·show Le _ _ ⟨[(4,vI N),(0,_),(2,_),(3,_)],[(0,oC l x2.2),aR 4096 2 [schT default],aR 8208 2 [cdlT A,cdlT B],aR 8220 7 [colT whoC,colT sexC,colT jobC],aR 8228 2 [.agg [.asl 8208 2,.asl 8220 3]]]⟩;exact .oA (U5 0 4096 8208 8220 8228) []
  obtain⟨ms,a4⟩:=y;obtain⟨y1,y2,y3⟩:=hy;dsimp only at y1 y2 y3;simp only[tZ,↓uU,simprocAttr,AZ,Ay];refine XE.brN (fun h4=>?_) (fun h4=>?_)
  ·have hlt:ms.length<N:=by omega
   have hI:=zL6 (3+ms.length) oM;obtain⟨⟨M,a5⟩,⟨dM,ha5⟩,sM⟩:=yr (3+ms.length) l a4 hl y3;dsimp only at dM ha5 sM;have hwk:=kK (i:=N-ms.length) oM oM;refine XE.sd oM ?_;refine XE.mp (fun _ _=>C1.im hI rF rF) ?_;simp only[tZ,↓uU,simprocAttr,zL5];refine XE.sd (show 1+1≤9223372036854775807 by omega) ?_;refine XE.mp (fun _ _=>C1.draw 0 l a4 _ sM rfl rfl rfl) ?_;simp only[tZ,↓uU,simprocAttr,hwk];refine XE.sd oM (XE.sd oM (XE.sd kR ?_));refine XE.next ih (ms++[M],a5) ⟨by simp;omega,fun i h=>?_,ha5⟩ (by simp;omega) fun e ⟨_,hst⟩=>?_
   ·dsimp only at h ⊢
    by_cases hi:i<ms.length
    ·rw[List.getElem_append_left hi];exact y2 i hi
    ·have he:i=ms.length:=by rw[AW] at h;simp at h;omega
     subst he;rw[List.getElem_append_right (BZ _)];simpa using dM
   ·have e1:N-(ms++[M]).length=N-ms.length-1:=by rw[AW];simp;omega
    simp only[e1];exact .oA (U5 0 4096 8208 8220 8228) []
  ·have hnl:ms.length=N:=by omega
   refine XE.fin (⟨[A,B],[whoC,sexC,jobC]++ms⟩,a4) ⟨⟨⟨A,B,rfl,dA,dB⟩,⟨ms,.inr ⟨rfl,y2⟩,oM,oM⟩⟩,y3⟩ fun e ⟨_,hst⟩=>?_;refine⟨oM,?_⟩;exact .oA (U1 0) [8208,8220]
 ·refine XE.mp (fun _ _=>C1.draw 0 l a3 _ h2 rfl rfl rfl) ?_;refine sW ?_;refine XE.loopF mixm [4,15] (fun y:List Col×Nat=>y.1.length≤N∧(∀ i (h:i<y.1.length),DrM (2+i) y.1[i])∧y.2≤l.length) (fun y=>[(4,vI ((N-y.1.length:Nat):Int))]) (fun y=>[(0,oC l y.2),aR 4096 2 [schT default],aR 8208 2 [cdlT A,cdlT B],aR 8220 7 (([whoC,sexC]++y.1).map colT),aR 8228 2 [.agg [.asl 8208 2,.asl 8220 (2+y.1.length)]]]) (fun y=>N-y.1.length) ([],x2.2) ⟨sMp,fun i h=>by simp at h,b2⟩ (fun e ⟨_,hst⟩=>?_) fun T' y hy ih=>?_
  ·show Le _ _ ⟨[(4,vI N),(0,_),(2,_),(3,_)],[(0,oC l x2.2),aR 4096 2 [schT default],aR 8208 2 [cdlT A,cdlT B],aR 8220 7 [colT whoC,colT sexC],aR 8228 2 [.agg [.asl 8208 2,.asl 8220 2]]]⟩;exact .oA (U5 0 4096 8208 8220 8228) []
  obtain⟨ms,a4⟩:=y;obtain⟨y1,y2,y3⟩:=hy;dsimp only at y1 y2 y3;simp only[tZ,↓uU,simprocAttr,AZ,Ay];refine XE.brN (fun h4=>?_) (fun h4=>?_)
  ·have hlt:ms.length<N:=by omega
   have hI:=zL6 (2+ms.length) oM;obtain⟨⟨M,a5⟩,⟨dM,ha5⟩,sM⟩:=yr (2+ms.length) l a4 hl y3;dsimp only at dM ha5 sM;have hwk:=kK (i:=N-ms.length) oM oM;refine XE.sd oM ?_;refine XE.mp (fun _ _=>C1.im hI rF rF) ?_;simp only[tZ,↓uU,simprocAttr,zL5];refine XE.sd (show 1+1≤9223372036854775807 by omega) ?_;refine XE.mp (fun _ _=>C1.draw 0 l a4 _ sM rfl rfl rfl) ?_;simp only[tZ,↓uU,simprocAttr,hwk];refine XE.sd oM (XE.sd oM (XE.sd kR ?_));refine XE.next ih (ms++[M],a5) ⟨by simp;omega,fun i h=>?_,ha5⟩ (by simp;omega) fun e ⟨_,hst⟩=>?_
   ·dsimp only at h ⊢
    by_cases hi:i<ms.length
    ·rw[List.getElem_append_left hi];exact y2 i hi
    ·have he:i=ms.length:=by rw[AW] at h;simp at h;omega
     subst he;rw[List.getElem_append_right (BZ _)];simpa using dM
   ·have e1:N-(ms++[M]).length=N-ms.length-1:=by rw[AW];simp;omega
    simp only[e1];exact .oA (U5 0 4096 8208 8220 8228) []
  ·have hnl:ms.length=N:=by omega
   refine XE.fin (⟨[A,B],[whoC,sexC]++ms⟩,a4) ⟨⟨⟨A,B,rfl,dA,dB⟩,⟨ms,.inl ⟨rfl,y2⟩,oM,oM⟩⟩,y3⟩ fun e ⟨_,hst⟩=>?_;refine⟨oM,?_⟩;exact .oA (U1 0) [8208,8220]
theorem DrS.col {s:Sch} (h:DrS s) {i:Nat} (hi:i<s.cols.length) (hk:(qj s i).kind=3):∃ n,DrM n (qj s i):=by
 obtain⟨ms,hc,h1,h3⟩:=h.cs;have key:∀ (pre:List Col) (n:Nat),(∀ c∈pre,c.kind≠3)→s.cols=pre++ms→(∀ j (hj:j<ms.length),DrM (n+j) ms[j])→∃ n,DrM n (qj s i):=by
  intro pre n hp he hm;rw[qj,qg hi] at hk ⊢
  by_cases c:i<pre.length
  ·have e:s.cols[i]=pre[i]:=by simp only[he];exact List.getElem_append_left c
   rw[e] at hk;exact absurd hk (hp _ (AX c))
  ·have hl:i-pre.length<ms.length:=by rw[he,AW] at hi;omega
   have e:s.cols[i]=ms[i-pre.length]:=by simp only[he];exact List.getElem_append_right oM
   rw[e];exact⟨_,hm _ hl⟩
 rcases hc with⟨hc,hm⟩ | ⟨hc,hm⟩
 ·exact key [whoC,sexC] 2 (by simp [whoC,sexC]) (by rw[hc];rfl) hm
 ·exact key [whoC,sexC,jobC] 3 (by simp [whoC,sexC,jobC]) (by rw[hc];rfl) hm
theorem DrS.nl {s:Sch} (h:DrS s):s.lists.length=2:=by
 obtain⟨a,b,e,_⟩:=h.ls;rw[e];rfl
theorem YI (s:Sch) (hd:DrS s) (i:Nat) (hi:i<s.cols.length) (l:List UInt8) (a:Nat) (hl:l.length≤400) (ha:a≤l.length) :
 ∃ r:Int×Nat,(qS s i r.1=true∧(i=0→r.1≤60)∧r.2≤l.length)∧Sp 118 [.ptr 0 1 0 0,schT s,vI i] [(0,oC l a)] (vI r.1) [(0,oC l r.2)]:=by
 have hE:=hd.ok;have hok:=qO hE;have hat:qj s i=s.cols[i]:=by rw[qj,qg hi]
 have hk:=zo (hok.cs i hi);have hH:∀ v,qS s i v=if s.cols[i].kind=1 then inB v 1 1048575
  else if s.cols[i].kind=2 then inB v 0 ((qK s i).codes.length-1)&&(lvlC (qK s i) v==zA (qK s i)-1)
  else (s.cols[i].opt&&(v==qW))||inB v s.cols[i].low s.cols[i].high:=fun v=>by rw[qS,hat]
 by_cases k1:s.cols[i].kind=1
 ·have h1:=zD l a 1 60 hl ha oM oM;have r1:=kf l a (60-1+1) oM;have b1:=qb0 l a (60-1+1) ha;generalize nx l a (60-1+1)=x1 at h1 r1 b1;refine⟨(1+x1.1,x1.2),⟨by rw[hH,Aj k1,zP];dsimp only;omega,fun _=>by dsimp only;omega,b1⟩,?_⟩;have q:(s.cols[i].kind==1)=true:=AY.2 k1;refine sIr zT fun e _ hst=>?_;unfold zn;simp only[tZ,↓uU,simprocAttr,Ax,qd hi,q];refine⟨oM,?_⟩;refine C1.draw 0 l a _ h1 rfl rfl rfl ?_;refine sW ?_;exact .oA (U1 0) []
 have q1:(s.cols[i].kind==1)=false:=Ak.2 k1;have hi0:∀ v:Int,i=0→v≤60:=fun v e=>by
  subst e;have:=hok.c0;rw[hat] at this;exact absurd this k1
 by_cases k2:s.cols[i].kind=2
 ·have q2:(s.cols[i].kind==2)=true:=AY.2 k2;have hlv:=jv s hok i hi (by rw[hat];exact k2);have hll:=jM hok hi (by rw[hat];exact k2);obtain⟨d1,d2⟩:=hok.cdl hi (by rw[hat];exact k2);have hne:0<(qA s i).length:=zo3 d2;have hlh:=fun v=>Wl (s:=s) (i:=i) (by rw[hat];exact k2) d2 (v:=v);generalize qA s i=L at hlv hll hne hlh;have h1:=zQ l a L.length hl ha oM;have r1:=kf l a L.length oM;have b1:=qb0 l a L.length ha;generalize nx l a L.length=x1 at h1 r1 b1;obtain⟨m,hm⟩:=AJ r1.1;have hmL:m<L.length:=by omega
  rw[hm] at h1;refine⟨(L[m],x1.2),⟨hlh _ (AX hmL),hi0 _,b1⟩,?_⟩;refine sIr zT fun e _ hst=>?_;unfold zn;simp only[tZ,↓uU,simprocAttr,Ax,qd hi,q1,q2];refine⟨oM,?_⟩;refine C1.im hlv rF rF ?_;refine sW ?_;refine C1.draw 0 l a _ h1 rfl rfl rfl ?_;simp only[tZ,↓uU,simprocAttr,Ax,qd hmL];refine⟨oM,?_⟩;exact .oA (U1 0) []
 have q2:(s.cols[i].kind==2)=false:=Ak.2 k2;have k3:s.cols[i].kind=3:=by rw[hat] at hk;omega
 obtain⟨n,hM⟩:=hd.col hi (by rw[hat];exact k3);rw[hat] at hM;have hlo:=hM.low;have hhi:=hM.high;have hin:∀ v,s.cols[i].low≤v→v≤s.cols[i].high→qS s i v=true:=fun v h1 h2=>by
  rw[hH,Aq k1,Aq k2,DZ,zP];exact .inr ⟨h1,h2⟩
 cases ho:s.cols[i].opt with
 | false=>
   obtain⟨v,a2,v1,v2,ha2,sR⟩:=jl9 l a s.cols[i].low s.cols[i].high hl ha oM oM;refine⟨(v,a2),⟨hin v v1 v2,hi0 _,ha2⟩,?_⟩;refine sIr zT fun e _ hst=>?_;unfold zn;simp only[tZ,↓uU,simprocAttr,Ax,qd hi,q1,q2,ho];refine⟨oM,?_⟩;refine C2.no sMp ?_;refine sW ?_;refine C1.draw 0 l a _ sR rfl rfl rfl ?_;refine sW ?_;exact .oA (U1 0) []
 | true=>
   obtain⟨o,a1,b1,h1⟩:=jU2 l a 4 hl ha oM;cases o with
   | true=>
     refine⟨(qW,a1),⟨by rw[hH,Aq k1,Aq k2,ho];simp,hi0 _,b1⟩,?_⟩;refine sIr zT fun e _ hst=>?_;unfold zn;simp only[tZ,↓uU,simprocAttr,Ax,qd hi,q1,q2,ho];refine⟨oM,?_⟩;refine C2.one (by trivial) (C1.draw 0 l a _ h1 rfl rfl rfl ?_);refine sW ?_;exact .oA (U1 0) []
   | false=>
     obtain⟨v,a2,v1,v2,ha2,sR⟩:=jl9 l a1 s.cols[i].low s.cols[i].high hl b1 oM oM;refine⟨(v,a2),⟨hin v v1 v2,hi0 _,ha2⟩,?_⟩;refine sIr zT fun e _ hst=>?_;unfold zn;simp only[tZ,↓uU,simprocAttr,Ax,qd hi,q1,q2,ho];refine⟨oM,?_⟩;refine C2.one (by trivial) (C1.draw 0 l a _ h1 rfl rfl rfl ?_);refine sW ?_;refine C1.draw 0 l a1 _ sR rfl rfl rfl ?_;refine sW ?_;exact .oA (U1 0) []
theorem qj6 (s:Sch) (hD:DrS s) (l:List UInt8) (a:Nat) (hl:l.length≤400) (ha:a≤l.length) :
 ∃ r:List Int×Nat,(rowE s r.1=0∧hd r.1≤60∧r.2≤l.length)∧Sp 68 [.ptr 0 1 0 0,schT s] [(0,oC l a)] (.asl 1 r.1.length) [(0,oC l r.2),aR 1 1 (r.1.map vI)]:=by
 have hE:=hD.ok;have hnc:=(qO hE).nc;refine wN qh7 mixm (fun r:List Int×Nat=>.asl 1 r.1.length) (fun r=>[(0,oC l r.2),aR 1 1 (r.1.map vI)]) sMp ?_;unfold wt;refine sW ?_;refine XE.loopF mixm [5,10] (fun y:List Int×Nat=>y.1.length≤s.cols.length∧(∀ i,i<y.1.length→qS s i (y.1.getD i 0)=true)∧hd y.1≤60∧y.2≤l.length) (fun y=>[(5,.asl 1 y.1.length),(10,vI y.1.length)]) (fun y=>[(0,oC l y.2),aR 4096 2 [schT s],aR 1 1 (y.1.map vI)]) (fun y=>s.cols.length-y.1.length) ([],a) ⟨sMp,sMp,by simp [hd],ha⟩ (fun e ⟨_,hst⟩=>?_) fun T' y hy ih=>?_
 ·exact .oA [uI 0,uI 4096,(1,none)] []
 obtain⟨rs,a1⟩:=y;obtain⟨y1,y2,y5,y3⟩:=hy;dsimp only at y1 y2 y3 y5;simp only[tZ,↓uU,simprocAttr,AZ,Ay];refine XE.brN (fun h4=>?_) (fun h4=>?_)
 ·have hlt:rs.length<s.cols.length:=by omega
  obtain⟨⟨v,a2⟩,⟨hv,hv6,ha2⟩,sV⟩:=YI s hD rs.length hlt l a1 hl y3;dsimp only at hv hv6 ha2 sV;have hwi:=qh (i:=rs.length) oM;refine XE.mp (fun _ _=>C1.draw 0 l a1 _ sV rfl rfl rfl) ?_;simp only[tZ,↓uU,simprocAttr,hwi];refine XE.sd oM ?_;refine XE.next ih (rs++[v],a2) ⟨by simp;omega,fun i h=>?_,?_,ha2⟩ (by simp;omega) fun e ⟨_,hst⟩=>?_
  ·dsimp only at h ⊢
   by_cases hi:i<rs.length
   ·rw[CY,BK hi,← CY];exact y2 i hi
   ·have he:i=rs.length:=by rw[AW] at h;simp at h;omega
    subst he;rw[CY,BJ (BZ _)];simpa using hv
  ·cases rs with
   | nil=>exact hv6 rfl
   | cons r0 rs=>exact y5
  ·exact .oA (U3 0 4096 1) []
 ·have hnl:rs.length=s.cols.length:=by omega
  refine XE.fin (rs,a1) ⟨jk5 hE hnl y2,y5,y3⟩ fun e ⟨_,hst⟩=>?_;exact .oA (U2 0 1) []
theorem qe2 (s:Sch) (hD:DrS s) (l:List UInt8) (a:Nat) (hl:l.length≤400) (ha:a≤l.length) :
 ∃ r:List Int×Nat,(rowE s r.1=0∧hd r.1≤60∧r.2≤l.length)∧Sp 68 [.ptr 0 1 0 0,schT s] [(0,oC l a)] (vIs r.1) [(0,oC l r.2)]:=by
 obtain⟨r,hr,hs⟩:=qj6 s hD l a hl ha;refine⟨r,hr,hs.weaken ?_⟩;refine .of (U1 0) [1] rfl rfl ?_ ?_
 all_goals (try exact clA)
structure DrX (x:Src):Prop where
 sch:DrS x.sch
 ok:SrcOk x
 gone:x.gone=[]
 ver:x.ver=0
abbrev srcZ (s:Src):T:=.agg [.sl 2 (s.sch.lists.map cdlT),.sl 7 (s.sch.cols.map colT),vRw s.rows,.v (.slice none 0 0),vI s.ver]
theorem WC (most:Int) (l:List UInt8) (a:Nat) (hl:l.length≤400) (ha:a≤l.length) (hm:0≤most∧most≤100) :
 ∃ r:Src×Nat,((DrX r.1∧(r.1.rows.length:Int)≤most∧∀ r2∈r.1.rows,hd r2≤60)∧r.2≤l.length)∧Sp 23 [.ptr 0 1 0 0,vI most] [(0,oC l a)] (srcZ r.1) [(0,oC l r.2)]:=by
 obtain⟨⟨s,a1⟩,⟨hD,ha1⟩,sS⟩:=YH l a hl ha;dsimp only at hD ha1 sS;obtain⟨v,a2,v1,v2,ha2,sN⟩:=qR5 l a1 (most+1) hl ha1 oM;obtain⟨N,rfl⟩:=AJ v1;have hE:=hD.ok;have hw:IntKind.i64.wrap (most+1)=most+1:=AK _ oM;refine wN Wt mixm (fun r:Src×Nat=>srcZ r.1) (fun r=>[(0,oC l r.2)]) sMp ?_;unfold jQ;refine sW ?_;refine XE.mp (fun _ _=>C1.draw 0 l a _ sS rfl rfl rfl) ?_;simp only[tZ,↓uU,simprocAttr,hw];refine XE.mp (fun _ _=>C1.draw 0 l a1 _ sN rfl rfl rfl) ?_;refine sW ?_;refine XE.loopF mixm [7] (fun y:Nat×List (List Int)×Nat=>y.1≤N∧y.2.1.length+y.1≤N∧AscR y.2.1∧(∀ r∈y.2.1,rowE s r=0∧hd r≤60)∧y.2.2≤l.length) (fun y=>[(7,vI y.1)]) (fun y=>[(0,oC l y.2.2),aR 4096 5 [srcT src0],aR 8200 2 [schT s],aR 12296 5 [.agg [.sl 2 (s.lists.map cdlT),.sl 7 (s.cols.map colT),vRw y.2.1,.v (.slice none 0 0),vI 0]]]) (fun y=>y.1) (N,[],a2) ⟨sMp,sMp,.nil,sMp,ha2⟩ (fun e ⟨_,hst⟩=>?_) fun T' y hy ih=>?_
 ·exact .oA (U4 0 4096 8200 12296) []
 obtain⟨k,rs,a3⟩:=y;obtain⟨y0,y1,y2,y3,y4⟩:=hy;dsimp only at y0 y1 y2 y3 y4;simp only[tZ,↓uU,simprocAttr,AZ,Ay];refine XE.brN (fun h4=>?_) (fun h4=>?_)
 ·obtain⟨⟨row,a4⟩,⟨hr,hr6,ha4⟩,sR⟩:=qe2 s hD l a3 hl y4;dsimp only at hr hr6 ha4 sR;have hwk:=kK (i:=k) oM oM;refine XE.mp (fun _ _=>C1.draw 0 l a3 _ sR rfl rfl rfl) ?_;refine sW ?_;refine XE.mp (fun _ _=>C1.im (qA8 rs row oM (fun r hr=>JK (y3 r hr).1) (JK hr)) rF rF) ?_;simp only[tZ,↓uU,simprocAttr,hwk];refine XE.sd kR ?_;have hpl:=zb0 rs row;refine XE.next ih (k-1,putR rs row,a4) ⟨by dsimp only;omega,by dsimp only;omega,za8 y2,fun r hr2=>?_,ha4⟩ (by dsimp only;omega) fun e ⟨_,hst⟩=>?_
  ·rcases (za9 y2).1 hr2 with h | h
   ·rw[h];exact⟨hr,hr6⟩
   ·exact y3 r h.1
  ·exact .oA (U4 0 4096 8200 12296) []
 ·have hk:k=0:=by omega
  refine XE.fin (⟨s,rs,[],0⟩,a3) ⟨⟨⟨hD,⟨hE,by dsimp only;omega,sMp,sMp,fun r hr=>(y3 r hr).1,y2,sMp,.nil⟩,rfl,rfl⟩,by dsimp only;omega,fun r hr=>(y3 r hr).2⟩,y4⟩ fun e ⟨_,hst⟩=>?_;exact .oA (U1 0) []
theorem WD (most:Int) (l:List UInt8) (a:Nat) (hl:l.length≤400) (ha:a≤l.length) (hm:0≤most∧most≤100) :
 ∃ r:Src×Nat,((DrX r.1∧(r.1.rows.length:Int)≤most∧∀ r2∈r.1.rows,hd r2≤60)∧r.2≤l.length)∧Sp 23 [.ptr 0 1 0 0,vI most] [(0,oC l a)] (srcT r.1) [(0,oC l r.2)]:=by
 obtain⟨r,hr,hs⟩:=WC most l a hl ha hm;refine⟨r,hr,hs.weaken ?_⟩;have hg:r.1.gone.map vI=[]:=by rw[hr.1.1.gone];rfl
 refine .of (U1 0) [] rfl rfl ?_ ?_
 all_goals (try exact clA)
 all_goals (try exact hg)
def QD (s:Sch) (kind:Int) (n:Nat):List Int:=List.map (fun i:Nat=>(i:Int)) ((List.range n).filter fun i=>(qj s i).kind==kind)
theorem jO (s:Sch) (kind:Int) (n:Nat):QD s kind (n+1)=QD s kind n++(if (qj s n).kind=kind then [(n:Int)] else []):=by
 unfold QD;rw[List.range_succ,FY,By]
 congr 1
 by_cases h:(qj s n).kind=kind
 ·rw[Aj h,List.filter_cons,Aj (AY.2 h)];rfl
 ·rw[Aq h,List.filter_cons,Aq (by rw[AY];exact h)];rfl
theorem KS (s:Sch) (kind:Int) (n:Nat):(QD s kind n).length≤n:=by
 unfold QD;rw[BY];exact FZ (Fx _ _) sMp
def qR (s:Sch) (kind:Int):List Int:=QD s kind s.cols.length
theorem ZR {s:Sch} {kind v:Int}:v∈qR s kind↔isB s v kind=true:=by
 unfold qR QD;rw[jk];simp only[Cj,Fz,Dk,AY];constructor
 ·rintro ⟨i,⟨h1,h2⟩,rfl⟩;exact⟨oM,oM,by rw[Ax];exact h2⟩
 ·rintro ⟨h1,h2,h3⟩;exact⟨v.toNat,⟨oM,h3⟩,oM⟩
theorem qL4 (s:Sch) (kind:Int) (hn:s.cols.length≤1000):Sp 37 [schT s,vI kind] [] (vIs (qR s kind)) []:=by
 refine sIr qv9 fun e _ hst=>?_;unfold yT;refine sW ?_;refine qt mixm (α:=Nat) [5,10] (fun i=>i≤s.cols.length) (fun i=>[(5,.asl 1 (QD s kind i).length),(10,vI i)]) (fun i=>[aR 4096 2 [schT s],aR 1 1 ((QD s kind i).map vI)]) (fun i=>s.cols.length-i) 0 oM ?_ fun i hi=>?_
 ·show Le _ _ ⟨_,[aR 4096 2 [schT s],aR 1 1 []]⟩;exact .oA [uI 4096,(1,none)] []
 have hfl:=KS s kind i;refine sD ?_;refine⟨fun h=>?_,fun h=>?_⟩
 ·have hi2:i<s.cols.length:=by omega
  have hwi:=qh (i:=i) oM;have hat:qj s i=s.cols[i]:=by rw[qj,qg hi2]
  have hsu:=jO s kind i;rw[hat] at hsu;simp only[tZ,↓uU,simprocAttr,Ax,qd hi2,hwi,AY,Ak];refine⟨oM,fun h2=>?_,fun h2=>?_⟩
  ·rw[Aj h2] at hsu;refine⟨oM,i+1,oM,oM,?_⟩;rw[hsu];exact .oA (U2 4096 1) []
  ·rw[Aq h2,CW] at hsu;refine⟨i+1,oM,oM,?_⟩;rw[hsu];exact .oA (U2 4096 1) []
 ·have hil:i=s.cols.length:=by omega
  subst hil;exact .oA [] [1]
theorem DrS.code {s:Sch} (h:DrS s):0<(qR s 2).length∧(qR s 2).length≤8:=by
 have hnc:=(qO h.ok).nc;have hl:=KS s 2 s.cols.length;refine⟨List.length_pos_of_mem (a:=1) (ZR.2 (jk.2 ?_)),by unfold qR;omega⟩;obtain⟨ms,hc,h1,h3⟩:=h.cs;rcases hc with⟨hc,hm⟩ | ⟨hc,hm⟩
 ·refine⟨oM,by rw[hc];simp;omega,by rw[qj,hc];rfl⟩
 ·refine⟨oM,by rw[hc];simp;omega,by rw[qj,hc];rfl⟩
theorem DrS.meas {s:Sch} (h:DrS s):0<(qR s 3).length∧(qR s 3).length≤8:=by
 have hnc:=(qO h.ok).nc;have hl:=KS s 3 s.cols.length;refine⟨?_,by unfold qR;omega⟩;obtain⟨ms,hc,h1,h3⟩:=h.cs;rcases hc with⟨hc,hm⟩ | ⟨hc,hm⟩
 ·refine List.length_pos_of_mem (a:=2) (ZR.2 (jk.2 ⟨oM,by rw[hc];simp;omega,?_⟩));have:=(hm 0 h1).kind;rw[qj,hc];show ((whoC::sexC::ms).getD 2 default).kind=3;rw[qg (by simp;omega)];exact this
 ·refine List.length_pos_of_mem (a:=3) (ZR.2 (jk.2 ⟨oM,by rw[hc];simp;omega,?_⟩));have:=(hm 0 h1).kind;rw[qj,hc];show ((whoC::sexC::jobC::ms).getD 3 default).kind=3;rw[qg (by simp;omega)];exact this
def ordB (l:List (List Int)):Bool:=(List.range l.length).all fun i=>decide (0<(l.getD i []).length)&&(decide (i=0)||decide (hd (l.getD (i-1) [])<hd (l.getD i [])))
def hasK (l:List (List Int)) (k:Int):Bool:=l.any fun r=>hd r==k
def appR (a:List (List Int)) (g:List Int) (rs:List (List Int)):List (List Int):=rs.foldl putR (a.filter fun r=>!g.contains (hd r))
def ascI (l:List Int):Bool:=(List.range l.length).all fun i=>asc2 l i
def appE (a:Ext) (c:Chg):Int:=
 if ordB a.rows=false∨ordB c.rows=false∨ascI c.gone=false∨(c.rows.any fun r=>decide (r.length≠a.picks.length+1))=true then 11
 else if (c.gone.any fun k=>!hasK a.rows k)=true then 21 else if (c.gone.any fun k=>hasK c.rows k)=true then 10 else 0
structure ExtOk (x:Ext):Prop where
 ord:ordB x.rows=true
 len:∀ r∈x.rows,r.length=x.picks.length+1
set_option maxHeartbeats 8000000
open So
def RwSm (l:List (List Int)):Prop:=l.length≤1000000∧∀ r∈l,r.length*8≤140737488355328
structure ExtSm (x:Ext):Prop where
 rows:RwSm x.rows
 picks:x.picks.length*16≤140737488355328
structure ChgSm (c:Chg):Prop where
 rows:RwSm c.rows
 gone:c.gone.length≤1000000
theorem qe3 (a b:List Int) (ha:a.length<4611686018427387904):Sp 109 [vIs a,vIs b] [] (vB (KQ a b)) []:=by
 refine sIr Yr fun e _ hst=>?_;unfold ky;simp only[tZ,↓uU,simprocAttr,Bj,Aw];refine⟨fun h=>?_,fun h=>?_⟩
 ·rw[KQ,qU4 oM];exact .oA [] []
 have hl:a.length=b.length:=by omega
 refine qt mixm (α:=Nat) [13] (fun i=>i≤a.length∧(KQ (a.take i) (b.take i)=true)) (fun i=>[(13,vI i)]) (fun i=>[]) (fun i=>a.length-i) 0 ⟨oM,?_⟩ ?_ fun i hi=>?_
 ·rfl
 ·exact .oA [] []
 simp only[tZ,↓uU,simprocAttr,AZ,Ay];refine⟨fun h=>?_,fun h=>?_⟩
 ·have hib:i<b.length:=by omega
  have hi2:i<a.length:=by omega
  have hwi:=qh (i:=i) oM;simp only[tZ,↓uU,simprocAttr,Ax,qd hi2,hwi,qd hib];refine⟨oM,oM,kR,fun h3=>?_,fun h3=>⟨i+1,⟨oM,?_⟩,oM,?_⟩⟩
  ·rw[KQ,qu8 (i:=i) hl oM (by simpa using h3)];exact .oA [] []
  ·rw[KQ,qh1 hi2 hib,← KQ,hi.2];simpa using h3
  ·exact .oA [] []
 ·have hi2:i=a.length:=by omega
  subst hi2;have h3:=hi.2;rw[Bw,List.take_of_length_le oM] at h3;rw[h3];exact .oA [] []
theorem Kc (p:Int→Bool) (f:FuncId) (caps:List T) (hcap:imL caps=true) (l:List Int) (hf:∀ y∈l,Sp f (vI y::caps) [] (vB (p y)) []) (hl:l.length<4611686018427387904) :
 Sp 114 [.sl 1 (l.map vI),.clo f caps] [] (vI (idxI p l)) []:=by
 refine sIr Jr fun e _ hst=>?_;unfold jp;refine sW ?_;refine qt mixm (α:=Nat) [8] (fun i=>i≤l.length∧((l.take i).any p=false)) (fun i=>[(8,vI i)]) (fun i=>[]) (fun i=>l.length-i) 0 ⟨oM,?_⟩ ?_ fun i hi=>?_
 ·simp
 ·exact .oA [] []
 simp only[tZ,↓uU,simprocAttr,AZ,Ay];refine⟨fun h=>?_,fun h=>?_⟩
 ·have hi2:i<l.length:=by omega
  have hwi:=qh (i:=i) oM;simp only[tZ,↓uU,simprocAttr,Ax,qd hi2,hwi,Kr];refine⟨oM,?_⟩;refine C1.im (hf l[i] (AX hi2)) (Kv rfl hcap) rfl ?_;refine sW ?_;refine⟨fun h3=>?_,fun h3=>⟨i+1,⟨oM,zV hi2 hi.2 h3⟩,oM,?_⟩⟩
  ·rw[idxI,Aj (ql9 hi2 h3),jI hi2 hi.2 h3];exact .imR rfl rfl
  ·exact .oA [] []
 ·have h2:i=l.length:=by omega
  have h3:=hi.2;rw[h2,Bw] at h3;rw[idxI,Aq (by rw[h3];simp)];exact .imR rfl rfl
theorem ka (p:Int→Bool) (f:FuncId) (caps:List T) (hcap:imL caps=true) (l:List Int) (hf:∀ y∈l,Sp f (vI y::caps) [] (vB (p y)) []) (hl:l.length<4611686018427387904) :
 Sp 64 [.sl 1 (l.map vI),.clo f caps] [] (vB (l.any p)) []:=by
 refine sIr Qz fun e _ hst=>?_;unfold zX;refine sW ?_;refine C1.im (Kc p f caps hcap l hf hl) (qq7 rfl hcap) rfl ?_;refine sW ?_;rw[show decide (idxI p l≥0)=l.any p from qU3 p l];exact .imR rfl rfl
def idxN (n:Int):List Int→Nat
 | []=>0
 | x::r=>if x=n then 0 else idxN n r+1
theorem zb5 {n:Int}:∀ {l:List Int} {i:Nat} (h:i<l.length),n∉l.take i→l[i]=n→idxN n l=i
 | [],i,h,_,_=>by simp at h
 | x::r,0,h,_,hp=>by simp at hp;simp [idxN,hp]
 | x::r,i+1,h,h1,hp=>by
   simp only[List.take_succ_cons,Ck,not_or] at h1;simp only[idxN];rw[Aq (fun e=>h1.1 e.symm),zb5 (l:=r) (i:=i) (by simpa using h) h1.2 (by simpa using hp)]
def KT (l:List Int) (n:Int):Int:=if n∈l then idxN n l else -1
theorem QI (l:List Int) (n:Int) (hl:l.length<4611686018427387904):Sp 102 [vIs l,vI n] [] (vI (KT l n)) []:=by
 refine sIr Yp fun e _ hst=>?_;unfold kv;refine sW ?_;refine qt mixm (α:=Nat) [8] (fun i=>i≤l.length∧(n∉l.take i)) (fun i=>[(8,vI i)]) (fun i=>[]) (fun i=>l.length-i) 0 ⟨oM,?_⟩ ?_ fun i hi=>?_
 ·simp
 ·exact .oA [] []
 simp only[tZ,↓uU,simprocAttr,AZ,Ay];refine⟨fun h=>?_,fun h=>?_⟩
 ·have hi2:i<l.length:=by omega
  have hwi:=qh (i:=i) oM;simp only[tZ,↓uU,simprocAttr,Ax,qd hi2,hwi,AY,Ak];refine⟨oM,fun h3=>?_,fun h3=>⟨i+1,⟨oM,?_⟩,oM,?_⟩⟩
  ·have hm:n∈l:=by rw[h3];exact AX hi2
   rw[KT,Aj hm,zb5 hi2 hi.2 h3.symm];exact .imR rfl rfl
  ·rw[qy hi2,Dz];rintro (h4 | h4)
   ·exact hi.2 h4
   ·simp at h4;exact h3 h4
  ·exact .oA [] []
 ·have h2:i=l.length:=by omega
  have h3:=hi.2;rw[h2,Bw] at h3;rw[KT,Aq h3];exact .imR rfl rfl
theorem KU (l:List Int) (n:Int) (hl:l.length<4611686018427387904):Sp 180 [vIs l,vI n] [] (vB (l.contains n)) []:=by
 refine sIr JY fun e _ hst=>?_;unfold jy;refine sW ?_;refine C1.im (QI l n hl) rfl rF ?_;refine sW ?_;refine .imR ?_ rfl;unfold KT;by_cases h:n∈l
 ·rw[Aj h,FQ.2 h];simp
 ·rw[Aq h];cases hc:l.contains n
  ·simp
  ·exact absurd (FQ.1 hc) h
set_option maxHeartbeats 4000000
structure TCl where
 codes:List Int
 cnt:Int
 sum:Int
 amt:Int
 fst:Int
 snd:Int
 rows:List Int
structure Tbl where
 dims:List Pk
 meas:Int
 cells:List TCl
abbrev tclT (c:TCl):T:=.agg [vIs c.codes,vI c.cnt,vI c.sum,vI c.amt,vI c.fst,vI c.snd,vIs c.rows]
abbrev tblT (t:Tbl):T:=.agg [vPs t.dims,vI t.meas,.sl 7 (t.cells.map tclT)]
def spSz (s:Sch):List Int:=(qR s 2).map fun c=>((qA s c.toNat).length:Int)
def spcE (s:Sch):Int:=if schE s≠0 then schE s else chkS (spSz s)
def spcS (s:Sch):List Int:=if spcE s≠0 then [] else spSz s
def spcC (s:Sch):List Int:=if spcE s≠0 then [] else qR s 2
def YJ (f:Int→Int) (x:List Int×List Int) (v:Int):List Int×List Int:=
 if f v∈x.2 then (x.1++[(idxN (f v) x.2:Int)],x.2) else (x.1++[(x.2.length:Int)],x.2++[f v])
def grpF (f:Int→Int) (l:List Int):List Int×List Int:=l.foldl (YJ f) ([],[])
theorem qe4 (f:Int→Int) {l:List Int} {i:Nat} (h:i<l.length):grpF f (l.take (i+1))=YJ f (grpF f (l.take i)) l[i]:=by
 unfold grpF;rw[qy h,Gx];rfl
theorem Qs {n:Int}:∀ {l:List Int},n∈l→idxN n l<l.length∧l.getD (idxN n l) 0=n
 | [],h=>by cases h
 | x::r,h=>by
   unfold idxN;split
   ·rename_i e;exact⟨sMp,by simpa using e⟩
   ·rename_i e;have:=Qs (l:=r) (by rcases Ck.1 h with h | h;exact absurd h.symm e;exact h);exact⟨by simp;omega,by simpa using this.2⟩
structure GrpOk (f:Int→Int) (l:List Int) (x:List Int×List Int):Prop where
 len:x.1.length=l.length
 nod:x.2.Nodup
 le:x.2.length≤l.length
 rng:∀ g∈x.1,0≤g∧g<x.2.length
 at_:∀ i,i<l.length→x.2.getD (x.1.getD i 0).toNat 0=f (l.getD i 0)
theorem qR6 (f:Int→Int) (l:List Int):GrpOk f l (grpF f l):=by
 suffices H:∀ i,i≤l.length→GrpOk f (l.take i) (grpF f (l.take i)) by
  have:=H l.length (BZ _)
  rwa [Bw] at this
 intro i
 induction i with
 | zero=>exact fun _=>⟨rfl,by simp [grpF],by simp [grpF],by simp [grpF],sMp⟩
 | succ i ih=>
   intro hi;have hi2:i<l.length:=by omega
   obtain⟨a1,a2,a3,a4,a5⟩:=ih oM;rw[qe4 f hi2,qy hi2];generalize grpF f (l.take i)=x at a1 a2 a3 a4 a5;have hl:(l.take i).length=i:=by rw[Cz];omega
   have key:∀ (g:Int) (y:List Int),(∀ k,k<x.2.length→y.getD k 0=x.2.getD k 0)→y.getD g.toNat 0=f l[i]→∀ j,j<(l.take i++[l[i]]).length→y.getD ((x.1++[g]).getD j 0).toNat 0=f ((l.take i++[l[i]]).getD j 0):=by
    intro g y h1 h2 j hj;rw[AW,List.length_singleton,hl] at hj;by_cases c:j<i
    ·have e1:(x.1++[g]).getD j 0=x.1.getD j 0:=by
      rw[CY,CY,BK oM]
     have e2:(l.take i++[l[i]]).getD j 0=(l.take i).getD j 0:=by
      rw[CY,CY,BK oM]
     rw[e1,e2,← a5 j oM];have hg:x.1.getD j 0∈x.1:=by
      rw[qg (show j<x.1.length by omega)];exact AX _
     have:=a4 _ hg;exact h1 _ oM
    ·have e:j=i:=by omega
     subst e;have e1:(x.1++[g]).getD j 0=g:=by
      rw[CY,BJ oM,a1,hl];simp
     have e2:(l.take j++[l[j]]).getD j 0=l[j]:=by
      rw[CY,BJ oM,hl];simp
     rw[e1,e2];exact h2
   unfold YJ;split
   ·rename_i h;obtain⟨b1,b2⟩:=Qs h;refine⟨by rw[AW,AW,a1];rfl,a2,by simp;omega,fun g hg=>?_,key _ _ (fun _ _=>rfl) (by rw[Ax];exact b2)⟩;rcases Dz.1 hg with h | h
    ·exact a4 g h
    ·rw[Ey.1 h];dsimp only;omega
   ·rename_i h;refine⟨by rw[AW,AW,a1];rfl,?_,by simp;omega,fun g hg=>?_,key _ _ (fun k hk=>?_) ?_⟩
    ·rw[List.nodup_append];refine⟨a2,sMp,fun a ha b hb e=>?_⟩;rw[Ey.1 hb] at e;exact h (e ▸ ha)
    ·rw[AW,List.length_singleton];rcases Dz.1 hg with h | h
     ·have:=a4 g h;omega
     ·rw[Ey.1 h];omega
    ·rw[CY,CY,BK hk]
    ·rw[Ax,CY,BJ oM];simp
def grpL (s:Sch) (c:Nat) (lev:Int):List Int×List Int:=grpF (fun v=>upC (qK s c) v lev) (qA s c)
def zr0 (s:Sch) (l:List Pk) (i:Nat):Bool:=(js s (l.getD i default)==0)&&((qj s (l.getD i default).col.toNat).kind==2)&&(l.take i).all fun x=>x.col != (l.getD i default).col
def qe5 (s:Sch) (l:List Pk):Bool:=(List.range l.length).all (zr0 s l)
def dmAt (ds:List Pk) (c:Int):Nat:=ds.findIdx fun d=>d.col==c
def vwG (s:Sch) (ds:List Pk) (c:Int):List Int:=if dmAt ds c<ds.length then (grpL s c.toNat (ds.getD (dmAt ds c) default).lev).1 else List.replicate (qA s c.toNat).length 0
def tabG (s:Sch) (ds:List Pk):List (List Int):=(qR s 2).map (vwG s ds)
def ofD (s:Sch) (ds:List Pk) (a:Nat):List Int:=(grpL s (ds.getD a default).col.toNat (ds.getD a default).lev).2
def plD (s:Sch) (ds:List Pk) (a:Nat):Nat:=idxN (ds.getD a default).col (qR s 2)
def YK (s:Sch) (ds:List Pk) (k:Nat):List Int:=(List.range ds.length).map fun a=>(ofD s ds a).getD ((zd ((tabG s ds).map gN) k).getD (plD s ds a) 0).toNat 0
def fndC (l:List TCl) (codes:List Int):Int:=if l.any (fun c=>KQ c.codes codes)=true then (l.findIdx (fun c=>KQ c.codes codes):Int) else -1
def tabK (s:Sch) (t:Tbl) (k:Nat):Int:=fndC t.cells (YK s t.dims k)
def tabN (s:Sch) (t:Tbl):Nat:=(pubN (tabG s t.dims)).toNat
def tabV (s:Sch) (t:Tbl) (k:Nat):Int:=(t.cells.getD (tabK s t k).toNat ⟨[],0,0,0,0,0,[]⟩).cnt
theorem zr1 {α:Type} (p q:α→Bool) (h:∀ a,p a=true→q a=false):∀ l:List α,(l.filter fun a=>p a||q a).length=(l.filter p).length+(l.filter q).length
 | []=>rfl
 | a::r=>by
   have ih:=zr1 p q h r;rw[List.filter_cons,List.filter_cons,List.filter_cons];cases hp:p a with
   | true=>
     rw[h a hp];simp only[Bool.or_false,if_true,CJ,ih];simp;omega
   | false=>
     cases hq:q a with
     | true=>simp only[Bool.or_true,if_true,CJ,ih];simp;omega
     | false=>simp only[Bool.or_false];simpa using ih
def cntL (sz:List Int) (ats:List (List Int)):List Int:=(kD (qX sz).toNat).map fun c=>((ats.filter fun a=>numL sz a==c).length:Int)
theorem JL (sz:List Int) (ats:List (List Int)):(cntL sz ats).length=(qX sz).toNat:=by
 unfold cntL;rw[BY,qy8]
theorem jm0 (sz:List Int) (ats:List (List Int)) {c:Int} (h:0≤c∧c<qX sz):(cntL sz ats).getD c.toNat 0=((ats.filter fun a=>numL sz a==c).length:Int):=by
 obtain⟨n,rfl⟩:=AJ h.1;have hn:n<(qX sz).toNat:=by omega
 rw[Ax,qg (by rw[JL];exact hn)];unfold cntL kD;rw[Fj,Fj,List.getElem_range]
theorem zr2 (sz:List Int) (ats:List (List Int)):∀ L:List Int,L.Nodup→(∀ c∈L,0≤c∧c<qX sz)→sumT (cntL sz ats) L=((ats.filter fun a=>L.contains (numL sz a)).length:Int)
 | [],_,_=>by
   have e:(ats.filter fun a=>([]:List Int).contains (numL sz a))=[]:=List.filter_eq_nil_iff.2 fun a _=>by simp
   rw[e];rfl
 | c::L,hn,hc=>by
   obtain⟨h1,h2⟩:=List.nodup_cons.1 hn;have ih:=zr2 sz ats L h2 fun x hx=>hc x (CQ _ hx);have e1:sumT (cntL sz ats) (c::L)=(cntL sz ats).getD c.toNat 0+sumT (cntL sz ats) L:=by
    have:=YB (cntL sz ats) [c] L;rw[qZ3] at this;exact this
   have e2:(ats.filter fun a=>(c::L).contains (numL sz a))=ats.filter fun a=>(numL sz a==c)||L.contains (numL sz a):=by
    congr 1
   rw[e1,ih,jm0 sz ats (hc c sMp),e2,zr1 _ _ fun a ha=>by
    rw[AY.1 ha];cases e:L.contains c with
    | false=>rfl
    | true=>exact absurd (FQ.1 e) h1]
   omega
theorem zr3 {sz:List Int} {gs:List (List Int)} (h:SpOk sz) (ats:List (List Int)) (hat:∀ a∈ats,inR sz a) (k:Int):pubV sz gs (cntL sz ats) k=((ats.filter fun a=>ofS sz gs (numL sz a)==k).length:Int):=by
 unfold pubV;rw[zr2 sz ats _ ((jw9 sz gs k).imp fun h e=>by omega) fun c hc=>((qZ2 h).1 hc).1]
 congr 2
 refine List.filter_congr fun a ha=>?_;have hr:=KN h.all (hat a ha);rw[Bool.eq_iff_iff,FQ,qZ2 h,AY];exact⟨fun x=>x.2,fun x=>⟨hr,x⟩⟩
set_option maxHeartbeats 8000000
mutual
def sizC:Cnd→Nat
 | .mk _ _ _ _ _ ks=>jU3 ks+1
def jU3:List Cnd→Nat
 | []=>0
 | k::r=>sizC k+jU3 r
end
structure CndOk (s:Sch) (n:Nat) (c:Cnd):Prop where
 ok:nodE s c=0
 dep:depC c≤n+1
 siz:sizC c+1≤2 ^ (n+1)
theorem YL (s:Sch) (kind:Int):(qR s kind).Nodup:=by
 unfold qR QD;show List.Pairwise (·≠·) _;rw[List.pairwise_map];exact ((List.nodup_range).filter _).imp fun h e=>h oM
theorem DrS.code2 {s:Sch} (h:DrS s):(qR s 2).length≤2:=by
 obtain⟨ms,hc,h1,h3⟩:=h.cs;have key:∀ (pre:List Col) (n:Nat),s.cols=pre++ms→(∀ j (hj:j<ms.length),DrM (n+j) ms[j])→(qR s 2).length=(QD s 2 pre.length).length:=by
  intro pre n he hm;unfold qR;have k2:∀ m,pre.length+m≤s.cols.length→(QD s 2 (pre.length+m)).length=(QD s 2 pre.length).length:=by
   intro m
   induction m with
   | zero=>intro _;rfl
   | succ m ih=>
     intro hle;have hl:m<ms.length:=by rw[he,AW] at hle;omega
     have hk:(qj s (pre.length+m)).kind=3:=by
      rw[qj,he,CY,BJ oM,Nat.add_sub_cancel_left,CK hl];exact (hm m hl).kind
     rw[← Nat.add_assoc,jO,Aq (by rw[hk];decide),CW];exact ih oM
  have:=k2 ms.length (by rw[he,AW];omega);rw[← AW,← he] at this;exact this
 rcases hc with⟨hc,hm⟩ | ⟨hc,hm⟩
 ·rw[key [whoC,sexC] 2 (by rw[hc];rfl) hm];have:=jO s 2 1;have h0:=jO s 2 0;have e0:(qj s 0).kind=1:=by rw[qj,hc];rfl
  rw[e0] at h0;show (QD s 2 (1+1)).length≤2;have:=KS s 2 2;omega
 ·rw[key [whoC,sexC,jobC] 3 (by rw[hc];rfl) hm];have h2:=jO s 2 2;have h1:=jO s 2 1;have h0:=jO s 2 0;have e0:(qj s 0).kind=1:=by rw[qj,hc];rfl
  have e1:(qj s 1).kind=2:=by rw[qj,hc];rfl
  have e2:(qj s 2).kind=2:=by rw[qj,hc];rfl
  rw[e0,Aq (by decide)] at h0;rw[e1,Aj rfl] at h1;rw[e2,Aj rfl] at h2;show (QD s 2 (2+1)).length≤2;rw[h2,h1,h0];simp [QD]
structure DimOk (s:Sch) (L:List Int) (l:List Pk):Prop where
 cols:l.map (·.col)=L
 pick:∀ p∈l,js s p=0
theorem DimOk.dims {s:Sch} {L:List Int} {l:List Pk} (h:DimOk s L l) (h1:1≤L.length) (h2:L.length≤3) (hn:L.Nodup) (hc:∀ v∈L,isB s v 2=true):wB s l=0:=by
 have hl:l.length=L.length:=by rw[← h.cols,BY]
 rw[wB,Aq oM];refine wO fun i hi=>?_;have hpi:pkAt l i=l[i]:=by rw[pkAt,qg hi]
 have hm:l[i]∈l:=AX hi;rw[dimE,hpi,Aq (by rw[h.pick _ hm];simp),Aq (by rw[hc _ (by rw[← h.cols];exact List.mem_map_of_mem hm)];simp),Aq];intro k;obtain⟨x,hx,e⟩:=DJ.1 k;obtain⟨j,hj,rfl⟩:=List.mem_take_iff_getElem.1 hx;rw[← h.cols] at hn;have:=DX.1 hn j i (by simp;omega) (by simp;omega) oM;simp only[Fj] at this;exact this (AY.1 e)
theorem jm1 {s:Sch} (hE:schE s=0) {v:Nat} (h:isB s v 2=true∨isB s v 3=true):1≤v∧v<s.cols.length∧0≤finI s v∧finI s v≤59:=by
 have hok:=qO hE;have hb:∃ k,2≤k∧isB s v k=true:=by rcases h with h | h <;> exact⟨_,oM,h⟩
 obtain⟨k,hk,hb⟩:=hb;obtain⟨_,b2,b3⟩:=jk.1 hb;rw[Ax] at b3;have hv:v≠0:=fun e=>by subst e;have:=hok.c0;omega
 refine⟨oM,oM,?_,qj2 hE⟩;rw[finI,Aq oM,Ax];split
 ·rename_i h2;have:=qq8 (hok.cdl oM h2).2;omega
 ·omega
theorem qj7 (s:Sch) (hd:DrS s) (l:List UInt8) (a:Nat) (hl:l.length≤400) (ha:a≤l.length) :
 ∃ r:List Pk×Nat,(wB s r.1=0∧r.2≤l.length)∧Sp 8 [.ptr 0 1 0 0,schT s] [(0,oC l a)] (vPs r.1) [(0,oC l r.2)]:=by
 have hE:=hd.ok;have hok:=qO hE;have hnc:=hok.nc;have hc:=qL4 s 2 oM;have hm:=fun v=>(ZR (s:=s) (kind:=2) (v:=v)).1;have hnd:=YL s 2;have hc2:=hd.code2;obtain⟨k1,k2⟩:=hd.code;generalize qR s 2=L at hc hm hnd hc2 k1 k2;obtain⟨o,a1,ha1,sO⟩:=jU2 l a 2 hl ha oM;obtain⟨j,a2,j1,j2,ha2,sN⟩:=qR5 l a1 L.length hl ha1 oM;obtain⟨m,rfl⟩:=AJ j1;refine wN qb3 mixm (fun r:List Pk×Nat=>vPs r.1) (fun r=>[(0,oC l r.2)]) sMp ?_;unfold kL;refine sW ?_;refine XE.mp (fun _ _=>C1.im hc rF rF) ?_;refine sW ?_;refine XE.mp (fun _ _=>C1.draw 0 l a _ sO rfl rfl rfl) ?_;refine sW ?_;refine XE.brB (fun ho=>?_) (fun ho=>?_)
 focus
  refine XE.mp (fun _ _=>C1.draw 0 l a1 _ sN rfl rfl rfl) ?_;simp only[tZ,↓uU,simprocAttr,Kt,qU0];have hmd:∀ v∈L.drop m,isB s v 2=true:=fun v hv=>hm v (EW hv);have hnd2:(L.drop m).Nodup:=hnd.sublist (List.drop_sublist m L);have hl2:1≤(L.drop m).length∧(L.drop m).length≤2:=by rw[List.length_drop];omega
  generalize L.drop m=M at hmd hnd2 hl2 ⊢
  obtain⟨b,hb⟩:∃ b,b=a2:=⟨_,rfl⟩;rw[← hb];have hb:b≤l.length:=by omega
  refine XE.sd oM ?_
 rotate_left
 focus
  have hmd:=hm;have hnd2:=hnd;have hl2:1≤L.length∧L.length≤2:=by omega
  obtain⟨M,hM⟩:∃ M,M=L:=⟨_,rfl⟩;rw[← hM] at hmd hnd2 hl2 ⊢
  obtain⟨b,hb⟩:∃ b,b=a1:=⟨_,rfl⟩;rw[← hb];have hb:b≤l.length:=by omega
 all_goals (
  refine XE.loopF mixm [5,20] (fun y:List Pk×Nat=>y.1.length≤M.length∧DimOk s (M.take y.1.length) y.1∧y.2≤l.length) (fun y=>[(5,.asl 1 y.1.length),(20,vI y.1.length)]) (fun y=>[(0,oC l y.2),aR 4096 2 [schT s],aR 1 2 (y.1.map pkT)]) (fun y=>M.length-y.1.length) ([],b) ⟨sMp,⟨rfl,sMp⟩,hb⟩ (fun e ⟨_,hst⟩=>?_) fun T' y hy ih=>?_
  ·exact .oA [uI 0,uI 4096,(1,none)] []
  obtain⟨ps,a4⟩:=y;obtain⟨y1,y2,y3⟩:=hy;dsimp only at y1 y2 y3;simp only[tZ,↓uU,simprocAttr,AZ,Ay];refine XE.brN (fun h4=>?_) (fun h4=>?_)
  ·have hi2:ps.length<M.length:=by omega
   have hwi:=qh (i:=ps.length) oM;have hiB:=hmd _ (AX hi2);have htk:=qy hi2;obtain⟨v,hv⟩:=AJ (jk.1 hiB).1;have hgv:(M.map vI).getD ps.length .junk=vI v:=by rw[qd hi2,hv]
   rw[hv] at hiB htk;obtain⟨f1,f2,f3,f4⟩:=jm1 hE (.inl hiB);have hFin:=zM s hok.sm v;obtain⟨w,a5,w1,w2,hw,sQ⟩:=qR5 l a4 (finI s v+1) hl y3 oM;have hwf:IntKind.i64.wrap (finI s v+1)=finI s v+1:=AK _ oM;simp only[tZ,↓uU,simprocAttr,Ax,hgv];refine XE.sd oM (XE.sd oM ?_);refine XE.mp (fun _ _=>C1.im hFin rF rF) ?_;simp only[tZ,↓uU,simprocAttr,hwf];refine XE.mp (fun _ _=>C1.draw 0 l a4 _ sQ rfl rfl rfl) ?_;simp only[tZ,↓uU,simprocAttr,hwi];refine XE.sd oM (XE.sd kR ?_);refine XE.next ih (ps++[⟨v,w⟩],a5) ⟨by simp;omega,⟨?_,fun p hp=>?_⟩,hw⟩ (by simp;omega) fun e ⟨_,hst⟩=>?_
   ·dsimp only;rw[AW,By,y2.cols];exact htk.symm
   ·rcases Dz.1 hp with hp | hp
    ·exact y2.pick p hp
    ·rw[Ey.1 hp,js,Aq (by rw[hE];simp),Aq (by dsimp only;omega),Aq];rw[Ez,zP];dsimp only;omega
   ·exact .oA (U3 0 4096 1) []
  ·have hil:ps.length=M.length:=by omega
   rw[hil,Bw] at y2;refine XE.fin (ps,a4) ⟨y2.dims hl2.1 oM hnd2 hmd,y3⟩ fun e ⟨_,hst⟩=>?_;exact .oA (U1 0) [1]
  )
theorem KV (s:ByteArray):Sp 146 [vS s] [] (vB (jr s)) []:=by
 refine sIr qX7 fun e _ hst=>?_;unfold Jx;refine sW ?_;refine⟨fun h=>?_,fun h=>?_,fun h=>?_,fun h=>?_⟩
 ·simp at h;omega
 ·simp at h;omega
 ·have:jr s=false:=by unfold jr zz3;rw[h];rfl
  rw[this];exact .oA [] []
 have hd:zz3 s=false:=h;have hs16:s.data.toList.length≤16:=by
  unfold zz3 at hd;simp only[FX,Ay] at hd;have:s.size=s.data.toList.length:=by rw[Array.length_toList];rfl
  omega
 refine qt mixm (α:=Nat) [26] (fun i=>i≤s.data.toList.length∧((s.data.toList.take i).any qz0=false)) (fun i=>[(26,vI i)]) (fun i=>[]) (fun i=>s.data.toList.length-i) 0 ⟨oM,?_⟩ ?_ fun i hi=>?_
 ·rfl
 ·exact .oA [] []
 refine sD ?_;refine⟨fun h5=>?_,fun h5=>?_⟩
 ·have hi2:i<s.data.toList.length:=by omega
  have hwi:=qh (i:=i) oM;simp only[tZ,↓uU,simprocAttr,Ax,qd hi2,hwi,wi];refine⟨oM,fun h6=>?_,fun h6=>?_⟩
  ·have hb:qz0 s.data.toList[i]=true:=h6;have:jr s=false:=by
    unfold jr;rw[show s.data.toList.any qz0=true from DJ.2 ⟨_,AX hi2,hb⟩];simp
   rw[this];exact .oA [] []
  ·have hb:qz0 s.data.toList[i]=false:=h6;refine⟨i+1,⟨oM,zV hi2 hi.2 hb⟩,oM,?_⟩;exact .oA [] []
 ·have h3:=hi.2;have:i=s.data.toList.length:=by omega
  rw[this,Bw] at h3;have hn:jr s=!(resW.contains s.toList):=by unfold jr;rw[hd,h3];rfl
  rw[hn];simp only[resW,List.contains_cons,List.contains_nil]
  repeat' (first | with_reducible apply Az | with_reducible intro _)
  all_goals first
   | (exfalso;simp_all;done)
   | (simp only[*,Bool.true_or,Bool.or_true,Bool.false_or,Bool.or_false,Bool.not_true,Bool.not_false];exact .imR rfl rfl)
end Go.Proofs
