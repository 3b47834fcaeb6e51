/- A part of the proof: trees of Go values, short forms, contracts. -/
import Derived.WalkKit
import Derived.Still
import Derived.MapKept
import GoSem.Builtin.Cap
import Derived.Laws.Externs
import GoSem.Extern.SlicesOverlaps
import Derived.Carry
import Derived.ProofKit
import Derived.OpenShut
import Derived.HandedShaped
import Derived.Lay
import Derived.LaidLaws
import Derived.MakeChecks
import Derived.SevenTiedAt
import Derived.Test.YtnfagfikoblhfaaGreatDoorChecked
import Derived.Test.YtnfagfikoblhfaaGreatDoorK18
set_option linter.unusedSimpArgs false
set_option linter.unusedVariables false
namespace Go.Proofs
open Go Go.TL
set_option maxRecDepth 4000
set_option maxHeartbeats 4000000
def d36:ByteArray:=⟨#[48,49,50,51,52,53,54,55,56,57,97,98,99,100,101,102,103,104,105,106,107,108,109,110,111,112,113,114,115,116,117,118,119,120,121,122]⟩
theorem zg0 {a b:ByteArray} (h:a.data.toList=b.data.toList):a=b:=by
 cases a;cases b;exact congrArg ByteArray.mk (Array.ext' h)
def dgS (n:Nat):ByteArray:=⟨#[dgt n]⟩
theorem jU7 (n:Nat) (h:n<10):d36.extract n (n+1)=dgS n:=by
 have:((List.range 10).all fun n=>(d36.extract n (n+1)).data.toList==(dgS n).data.toList)=true:=by decide +kernel
 exact zg0 (eq_of_beq (Bk.1 this n (Dk.2 h)))
theorem qq8 (c:UInt8) (n:Nat):(⟨#[c]⟩:ByteArray)++dgS n=⟨#[c,dgt n]⟩:=by
 apply zg0
 rw[ByteArray.toList_data_append]
 rfl
theorem jO7 (n:Nat) (h:n<10):Spc Tryz.prog 238 [vI n] [] (vS (dgS n)) []:=by
 have h1:=qh (i:=n) oM;have z1:d36.size=36:=rfl;refine sIr JH fun e _ hst=>?_;unfold jg;simp only[tZ,↓un_u,simprocAttr,tD,h1,Ax];refine⟨fun h2=>?_,fun h2=>by omega⟩;refine⟨?_,?_⟩
 ·show (0≤(n:Int)∧(n:Int)≤((n+1:Nat):Int)∧((n+1:Nat):Int)≤(d36.size:Int));omega
 ·show yh [] (vS (d36.extract n (n+1))) [] (vS (dgS n)) [];rw[jU7 n oM];exact .oA [] []
theorem qq9 (n:Nat) (h:n<10):Spc Tryz.prog 56 [vI n] [] (vS (dgS n)) []:=by
 have h1:Spc Tryz.prog 182 [vI n,vI 10] [] (vS (dgS n)) []:=by
  have e1:decide (0≤(n:Int))=true:=Cx oM;have e2:decide ((n:Int)<100)=true:=Cx oM;refine sIr Ql fun e _ hst=>?_;unfold zA;simp only[tZ,↓un_u,simprocAttr,beq_self_eq_true,e1,e2,Fq];refine C1.im (jO7 n h) rF rF ?_;refine sW ?_;exact .oA [] []
 have h2:Spc Tryz.prog 116 [vI n] [] (vS (dgS n)) []:=by
  refine sIr Kb fun e _ hst=>?_;unfold jl;refine sW ?_;refine C1.im h1 rF rF ?_;refine sW ?_;exact .oA [] []
 refine sIr qM4 fun e _ hst=>?_;unfold QY;refine sW ?_;refine C1.im h2 rF rF ?_;refine sW ?_;exact .oA [] []
def oneB (l:List UInt8) (a:Nat) (n:Int):Bool:=(nx l a n).1==n-1
theorem kP (l:List UInt8) (a:Nat) (n:Int) (hl:l.length≤400) (ha:a≤l.length) (hn:0≤n∧n≤1000000):Spc Tryz.prog 46 [.ptr 0 1 0 0,vI n] [(0,oC l a)] (vB (oneB l a n)) [(0,oC l (nx l a n).2)]:=by
 have hw:IntKind.i64.wrap (n-1)=n-1:=AK _ oM;refine sIr qu6 fun e _ hst=>?_;unfold yo;refine sW ?_;refine C1.draw 0 l a _ (zL l a n hl ha hn.2) rfl rfl rfl ?_;simp only[tZ,↓un_u,simprocAttr,hw];rw[show ((nx l a n).1==n-1)=oneB l a n from rfl];exact .oA [(0,some 0)] []
theorem jZ (l:List UInt8) (a:Nat) (n:Int) (hl:l.length≤400) (ha:a≤l.length) (hn:1≤n∧n≤1000000) :
 ∃ v b,0≤v∧v<n∧b≤l.length∧Spc Tryz.prog 47 [.ptr 0 1 0 0,vI n] [(0,oC l a)] (vI v) [(0,oC l b)]:=
 ⟨_,_,(kM l a n hn.1).1,(kM l a n hn.1).2,qk7 l a n ha,zL l a n hl ha hn.2⟩
theorem JN (l:List UInt8) (a:Nat) (lo hi:Int) (hl:l.length≤400) (ha:a≤l.length) (hlo : -1000000≤lo∧lo≤1000000) (hhi:lo≤hi∧hi≤lo+100000) :
 ∃ v b,lo≤v∧v≤hi∧b≤l.length∧Spc Tryz.prog 54 [.ptr 0 1 0 0,vI lo,vI hi] [(0,oC l a)] (vI v) [(0,oC l b)]:=by
 have r:=kM l a (hi-lo+1) oM;exact⟨_,_,oM,oM,qk7 l a (hi-lo+1) ha,zy l a lo hi hl ha hlo hhi⟩
theorem jr5 (l:List UInt8) (a:Nat) (n:Int) (hl:l.length≤400) (ha:a≤l.length) (hn:0≤n∧n≤1000000) :
 ∃ o b,b≤l.length∧Spc Tryz.prog 46 [.ptr 0 1 0 0,vI n] [(0,oC l a)] (vB o) [(0,oC l b)]:=
 ⟨_,_,qk7 l a n ha,kP l a n hl ha hn⟩
theorem jO8 (m:Nat) (h:m<4):wTab.getD m []∈wTab:=by rw[qg (by exact h)];exact AX _
theorem QA (n:Nat) (l:List UInt8) (a:Nat) (hl:l.length≤400) (ha:a≤l.length) :
 ∃ r:Col×Nat,(DrM n r.1∧r.2≤l.length)∧Spc Tryz.prog 55 [.ptr 0 1 0 0,vS ⟨#[109,dgt n]⟩] [(0,oC l a)] (colT r.1) [(0,oC l r.2)]:=by
 have h1:=zy l a (-4) 2 hl ha oM oM;have r1:=kM l a (2 - -4+1) oM;have b1:=qk7 l a (2 - -4+1) ha;generalize nx l a (2 - -4+1)=x1 at h1 r1 b1;have h2:=zL l x1.2 4 hl b1 oM;have r2:=kM l x1.2 4 oM;have b2:=qk7 l x1.2 4 b1;generalize nx l x1.2 4=x2 at h2 r2 b2;have h3:=kP l x2.2 3 hl b2 oM;have b3:=qk7 l x2.2 3 b2;generalize (nx l x2.2 3).2=a3 at h3 b3;generalize oneB l x2.2 3=o at h3;have h4:=zL l a3 45 hl b3 oM;have r4:=kM l a3 45 oM;have b4:=qk7 l a3 45 b3;generalize nx l a3 45=x4 at h4 r4 b4;refine⟨(⟨⟨#[109,dgt n]⟩,3,0,-4+x1.1,-4+x1.1+x4.1,wTab.getD x2.1.toNat [],o⟩,x4.2),⟨⟨rfl,rfl,rfl,by dsimp only;omega,by dsimp only;omega,jO8 _ oM⟩,b4⟩,?_⟩;obtain⟨m,hm⟩:=AJ r2.1;have hw:IntKind.i64.wrap (-4+x1.1+x4.1) = -4+x1.1+x4.1:=AK _ oM;refine sIr WV fun e _ hst=>?_;unfold jO;refine sW ?_;refine C1.draw 0 l a _ h1 rfl rfl rfl ?_;refine sW ?_;refine C1.draw 0 l x1.2 _ h2 rfl rfl rfl ?_;rw[hm] at r2 ⊢
 rw[Ax];have hm4:m=0∨m=1∨m=2∨m=3:=by omega
 have k0:wTab.getD 0 []=[1]:=rfl;have k1:wTab.getD 1 []=[1,5]:=rfl;have k2:wTab.getD 2 []=[1,5,20]:=rfl;have k3:wTab.getD 3 []=[1,2,4,12]:=rfl;rcases hm4 with e | e | e | e
 all_goals (
  subst e;simp only[tZ,↓un_u,simprocAttr,Ax,k0,k1,k2,k3]
  repeat (refine⟨oM,?_⟩)
  refine C1.draw 0 l x2.2 _ h3 rfl rfl rfl ?_;refine sW ?_;refine⟨kR,?_⟩;refine C1.draw 0 l a3 _ h4 rfl rfl rfl ?_;simp only[tZ,↓un_u,simprocAttr,hw];refine⟨kR,?_⟩
  )
 ·exact .oA [(0,some 0)] [8204]
 ·exact .oA [(0,some 0)] [8208]
 ·exact .oA [(0,some 0)] [8212]
 ·exact .oA [(0,some 0)] [8216]
def addN (i:Nat):Nat→List Cod→List Cod
 | 0,cs=>cs
 | k+1,cs=>addN i k (addL cs i)
theorem qR6 (i:Nat):∀ (k:Nat) (cs:List Cod),(List.range k).foldl (fun cs _=>addL cs i) cs=addN i k cs:=by
 have key:∀ (m:List Nat) (cs:List Cod),m.foldl (fun cs _=>addL cs i) cs=addN i m.length cs:=by
  intro m
  induction m with
  | nil=>intro cs;rfl
  | cons x m ih=>intro cs;rw[Dw,ih];rfl
 intro k cs;rw[key,List.length_range]
theorem zD5:∀ (ns:List Nat) (cs:List Cod) (i n:Nat),lefL cs i (ns++[n])=addN (i+ns.length) n (lefL cs i ns)
 | [],cs,i,n=>by rw[Cy,lefL,lefL,qR6];rfl
 | x::r,cs,i,n=>by rw[BW,lefL,lefL,zD5 r _ (i+1) n,CJ,show i+1+r.length=i+(r.length+1) by omega]
theorem zV8 (i:Nat):∀ (k:Nat) (cs:List Cod),(addN i k cs).length=cs.length+k
 | 0,cs=>rfl
 | k+1,cs=>by rw[addN,zV8 i k,addL,AW];simp;omega
theorem zV9:∀ (ns:List Nat) (cs:List Cod) (i:Nat),(∀ x∈ns,x=1∨x=2)→cs.length+ns.length≤(lefL cs i ns).length∧(lefL cs i ns).length≤cs.length+2*ns.length
 | [],cs,i,_=>by rw[lefL];simp
 | x::r,cs,i,h=>by
   have h1:=zV9 r ((List.range x).foldl (fun cs _=>addL cs i) cs) (i+1) fun y hy=>h y (CQ _ hy);rw[qR6,zV8] at h1;rw[lefL,qR6,CJ];have:=h x sMp;omega
theorem Kj (nm:ByteArray) (hnm:nm=zA3∨nm=zA4) (l:List UInt8) (a:Nat) (hl:l.length≤400) (ha:a≤l.length) :
 ∃ r:CodL×Nat,(DrL nm r.1∧r.2≤l.length)∧Spc Tryz.prog 53 [.ptr 0 1 0 0,vS nm] [(0,oC l a)] (cdlT r.1) [(0,oC l r.2)]:=by
 have h1:=zy l a 1 3 hl ha oM oM;have r1:=kM l a (3-1+1) oM;have b1:=qk7 l a (3-1+1) ha;generalize nx l a (3-1+1)=x1 at h1 r1 b1;obtain⟨K,hK⟩:=AJ (show 0≤1+x1.1 by omega);rw[hK] at h1;have hK3:1≤K∧K≤3:=by omega
 refine zw ql6 mixm (fun r:CodL×Nat=>cdlT r.1) (fun r=>[(0,oC l r.2)]) sMp ?_;unfold wD;refine sW ?_;refine XE.mp (fun _ _=>C1.draw 0 l a _ h1 rfl rfl rfl) ?_;refine sW ?_;have hk0:(Wy 0).map codT=[.agg [vS ⟨#[116,111,112]⟩,vI (-1)]]:=rfl;have hkl:∀ i,(Wy i).length=i+1:=fun i=>by simp [Wy]
 have hks:∀ i,Wy (i+1)=Wy i++[kidC i]:=fun i=>by rw[Wy,List.range_succ,By];rfl
 refine XE.loopF mixm [7] (fun i:Nat=>i≤K) (fun i=>[(7,vI i)]) (fun i=>[(0,oC l x1.2),(4096,.arr 2 [cdlT default] false),(8200,.arr 2 ((Wy i).map codT) false),(8208,.arr 2 [.agg [vS nm,.asl 8200 (i+1)]] false)]) (fun i=>K-i) 0 oM (fun e ⟨_,hst⟩=>?_) fun T' i hi ih=>?_
 ·simp only[hk0];exact .oA [(0,some 0),(4096,some 4096),(8200,some 8200),(8208,some 8208)] []
 simp only[tZ,↓un_u,simprocAttr,AZ,Ay];refine XE.brN (fun h=>?_) (fun h=>?_)
 ·have hwi:=qh (i:=i) oM;refine XE.mp (fun _ _=>C1.im (qq9 i oM) rF rF) ?_;simp only[tZ,↓un_u,simprocAttr,hwi];refine XE.sd (show 1+1≤9223372036854775807 by omega) (XE.sd ⟨hkl i,oM⟩ (XE.sd (hkl i) (XE.sd kR ?_)));refine XE.next ih (i+1) oM oM fun e ⟨_,hst⟩=>?_;rw[qq8,hks];exact .oA [(0,some 0),(4096,some 4096),(8200,some 8200),(8208,some 8208)] []
 ·have hiK:i=K:=by omega
  subst hiK;have h2:=kP l x1.2 2 hl b1 oM;have b2:=qk7 l x1.2 2 b1;generalize (nx l x1.2 2).2=a2 at h2 b2;generalize oneB l x1.2 2=o at h2;refine XE.mp (fun _ _=>C1.draw 0 l x1.2 _ h2 rfl rfl rfl) ?_;refine sW ?_;refine XE.brB (fun h3=>?_) (fun h3=>?_)
  ·refine XE.fin (⟨nm,Wy i⟩,a2) ⟨⟨rfl,(jq4 hnm hK3).1,by rw[hkl];omega⟩,b2⟩ fun e ⟨_,hst⟩=>?_;have hkli:=hkl i;refine⟨hkl i,?_⟩;exact .oA [(0,some 0)] [8200]
  ·refine XE.loopF mixm [8] (fun y:List Nat×Nat=>y.1.length≤i∧(∀ x∈y.1,x=1∨x=2)∧y.2≤l.length) (fun y=>[(8,vI y.1.length)]) (fun y=>[(0,oC l y.2),(4096,.arr 2 [cdlT default] false),(8200,.arr 2 ((lefL (Wy i) 0 y.1).map codT) false),(8208,.arr 2 [.agg [vS nm,.asl 8200 (lefL (Wy i) 0 y.1).length]] false)]) (fun y=>i-y.1.length) ([],a2) ⟨sMp,sMp,b2⟩ (fun e ⟨_,hst⟩=>?_) fun T2 y hy ih2=>?_
   ·have hkli:=hkl i;simp only[lefL];refine .of [(0,some 0),(4096,some 4096),(8200,some 8200),(8208,some 8208)] [] rfl (by first | rfl | (rw[hst];rfl)) ?_ ?_
    all_goals (try simp only[tL,simprocAttr,By,List.map_cons,List.map_nil,BW,Cy,hkl])
    all_goals (try (repeat' (first | exact qZ | (apply zk;intro _;exact⟨rfl,rfl⟩) | (apply qA;intro _;exact⟨rfl,rfl⟩) | with_reducible apply qW | with_reducible refine qQ ⟨rfl,rfl⟩ ?_ | exact qY | with_reducible apply qR | with_reducible refine qX ⟨rfl,rfl,?_⟩ ?_ | with_reducible apply Az | exact qS rfl | exact qS (by assumption) | (refine⟨⟨?_,rfl,?_,rfl,?_⟩,trivial⟩ <;> first | (simp;done) | (apply qA;intro _;exact⟨rfl,rfl⟩)) | trivial | rfl | (rw[qh oM]) | omega)))
   obtain⟨ns,a3⟩:=y;obtain⟨y1,y2,y3⟩:=hy;dsimp only at y1 y2 y3;have hll:=zV9 ns (Wy i) 0 y2;rw[hkl] at hll;simp only[tZ,↓un_u,simprocAttr,AZ,Ay];refine XE.brN (fun h4=>?_) (fun h4=>?_)
   ·have h5:=zy l a3 1 2 hl y3 oM oM;have r5:=kM l a3 (2-1+1) oM;have b5:=qk7 l a3 (2-1+1) y3;generalize nx l a3 (2-1+1)=x5 at h5 r5 b5;obtain⟨M,hM⟩:=AJ (show 0≤1+x5.1 by omega);rw[hM] at h5;have hsn:=zD5 ns (Wy i) 0 M;rw[Nat.zero_add] at hsn;refine XE.mp (fun _ _=>C1.draw 0 l a3 _ h5 rfl rfl rfl) ?_;refine sW ?_;generalize lefL (Wy i) 0 ns=cs at hll hsn ⊢
    refine XE.loopF mixm [9] (fun z:Nat×List Cod=>addN ns.length z.1 z.2=addN ns.length M cs∧z.2.length+z.1=cs.length+M) (fun z=>[(9,vI z.1)]) (fun z=>[(0,oC l x5.2),(4096,.arr 2 [cdlT default] false),(8200,.arr 2 (z.2.map codT) false),(8208,.arr 2 [.agg [vS nm,.asl 8200 z.2.length]] false)]) (fun z=>z.1) (M,cs) ⟨rfl,rfl⟩ (fun e ⟨_,hst⟩=>?_) fun T3 z hz ih3=>?_
    ·exact .oA [(0,some 0),(4096,some 4096),(8200,some 8200),(8208,some 8208)] []
    obtain⟨k,ds⟩:=z;obtain⟨z1,z2⟩:=hz;dsimp only at z1 z2;simp only[tZ,↓un_u,simprocAttr,AZ,Ay];refine XE.brN (fun h6=>?_) (fun h6=>?_)
    ·have hwn:=qh (i:=ns.length) oM;have hwk:=zG (i:=k) oM oM;have hw1:IntKind.i64.wrap (1+(ns.length:Int))=1+(ns.length:Int):=AK _ oM;refine XE.mp (fun _ _=>C1.im (qq9 ds.length oM) rF rF) ?_;simp only[tZ,↓un_u,simprocAttr,hwk,hw1];refine XE.sd (show 1+1≤9223372036854775807 by omega) (XE.sd oM (XE.sd kR ?_));refine XE.next ih3 (k-1,addL ds ns.length) ⟨?_,by dsimp only;rw[addL,AW];simp;omega⟩ (by dsimp only;omega) fun e ⟨_,hst⟩=>?_
     ·dsimp only;rw[← z1];obtain⟨j,rfl⟩:∃ j,k=j+1:=⟨k-1,oM⟩
      rfl
     ·rw[qq8];have e1:addL ds ns.length=ds++[⟨⟨#[108,dgt ds.length]⟩,1+(ns.length:Int)⟩]:=rfl;rw[e1];exact .oA [(0,some 0),(4096,some 4096),(8200,some 8200),(8208,some 8208)] []
    ·have hk0:k=0:=by omega
     subst hk0;have hwn:=qh (i:=ns.length) oM;rw[addN,← hsn] at z1;simp only[tZ,↓un_u,simprocAttr,hwn];refine XE.next ih2 (ns++[M],x5.2) ⟨by simp;omega,fun x hx=>?_,b5⟩ (by simp;omega) fun e ⟨_,hst⟩=>?_
     ·rcases Dz.1 hx with hx | hx
      ·exact y2 x hx
      ·rw[Ey.1 hx];omega
     ·simp only[z1,AW,CJ,Cw];rw[← z1];exact .oA [(0,some 0),(4096,some 4096),(8200,some 8200),(8208,some 8208)] []
   ·have hni:ns.length=i:=by omega
    have hok:=(jq4 hnm hK3).2 ns hni y2;refine XE.fin (⟨nm,lefL (Wy i) 0 ns⟩,a3) ⟨⟨rfl,hok,by dsimp only;omega⟩,y3⟩ fun e ⟨_,hst⟩=>?_;exact .oA [(0,some 0)] [8200]
end Go.Proofs
namespace Go.Proofs
open Go Go.TL
set_option maxRecDepth 4000
set_option maxHeartbeats 4000000
theorem qi3 (l:List UInt8) (a:Nat) (hl:l.length≤400) (ha:a≤l.length) :
 ∃ r:Sch×Nat,(DrS r.1∧r.2≤l.length)∧Spc Tryz.prog 11 [.ptr 0 1 0 0] [(0,oC l a)] (schT r.1) [(0,oC l r.2)]:=by
 obtain⟨⟨A,a1⟩,⟨dA,ha1⟩,sA⟩:=Kj zA3 (.inl rfl) l a hl ha;obtain⟨⟨B,a2⟩,⟨dB,ha2⟩,sB⟩:=Kj zA4 (.inr rfl) l a1 hl ha1;dsimp only at dA ha1 sA dB ha2 sB;have h1:=kP l a2 2 hl ha2 oM;have b1:=qk7 l a2 2 ha2;generalize (nx l a2 2).2=a3 at h1 b1;generalize oneB l a2 2=o at h1;have h2:=zy l a3 1 3 hl b1 oM oM;have r2:=kM l a3 (3-1+1) oM;have b2:=qk7 l a3 (3-1+1) b1;generalize nx l a3 (3-1+1)=x2 at h2 r2 b2;obtain⟨N,hN⟩:=AJ (show 0≤1+x2.1 by omega);rw[hN] at h2;refine zw qa2 mixm (fun r:Sch×Nat=>schT r.1) (fun r=>[(0,oC l r.2)]) sMp ?_;unfold ku;refine sW ?_;refine XE.mp (fun _ _=>C1.draw 0 l a _ sA rfl rfl rfl) ?_;refine sW ?_;refine XE.mp (fun _ _=>C1.draw 0 l a1 _ sB rfl rfl rfl) ?_;refine sW ?_;refine XE.mp (fun _ _=>C1.draw 0 l a2 _ h1 rfl rfl rfl) ?_;refine sW ?_;refine XE.brB (fun ho=>?_) (fun ho=>?_)
 ·refine XE.mp (fun _ _=>C1.draw 0 l a3 _ h2 rfl rfl rfl) ?_;refine sW ?_;refine XE.loopF mixm [4,15] (fun y:List Col×Nat=>y.1.length≤N∧(∀ i (h:i<y.1.length),DrM (3+i) y.1[i])∧y.2≤l.length) (fun y=>[(4,vI ((N-y.1.length:Nat):Int))]) (fun y=>[(0,oC l y.2),(4096,.arr 2 [schT default] false),(8208,.arr 2 [cdlT A,cdlT B] false),(8220,.arr 7 (([whoC,sexC,jobC]++y.1).map colT) false),(8228,.arr 2 [.agg [.asl 8208 2,.asl 8220 (3+y.1.length)]] false)]) (fun y=>N-y.1.length) ([],x2.2) ⟨sMp,fun i h=>by simp at h,b2⟩ (fun e ⟨_,hst⟩=>?_) fun T' y hy ih=>?_
  ·show Le _ _ ⟨[(4,vI N),(0,_),(2,_),(3,_)],[(0,oC l x2.2),(4096,.arr 2 [schT default] false),(8208,.arr 2 [cdlT A,cdlT B] false),(8220,.arr 7 [colT whoC,colT sexC,colT jobC] false),(8228,.arr 2 [.agg [.asl 8208 2,.asl 8220 3]] false)]⟩;exact .oA [(0,some 0),(4096,some 4096),(8208,some 8208),(8220,some 8220),(8228,some 8228)] []
  obtain⟨ms,a4⟩:=y;obtain⟨y1,y2,y3⟩:=hy;dsimp only at y1 y2 y3;simp only[tZ,↓un_u,simprocAttr,AZ,Ay];refine XE.brN (fun h4=>?_) (fun h4=>?_)
  ·have hlt:ms.length<N:=by omega
   have hI:=qq9 (3+ms.length) oM;obtain⟨⟨M,a5⟩,⟨dM,ha5⟩,sM⟩:=QA (3+ms.length) l a4 hl y3;dsimp only at dM ha5 sM;have hwk:=zG (i:=N-ms.length) oM oM;refine XE.sd oM ?_;refine XE.mp (fun _ _=>C1.im hI rF rF) ?_;simp only[tZ,↓un_u,simprocAttr,qq8];refine XE.sd (show 1+1≤9223372036854775807 by omega) ?_;refine XE.mp (fun _ _=>C1.draw 0 l a4 _ sM rfl rfl rfl) ?_;simp only[tZ,↓un_u,simprocAttr,hwk];refine XE.sd oM (XE.sd oM (XE.sd kR ?_));refine XE.next ih (ms++[M],a5) ⟨by simp;omega,fun i h=>?_,ha5⟩ (by simp;omega) fun e ⟨_,hst⟩=>?_
   ·dsimp only at h ⊢
    by_cases hi:i<ms.length
    ·rw[List.getElem_append_left hi];exact y2 i hi
    ·have he:i=ms.length:=by rw[AW] at h;simp at h;omega
     subst he;rw[List.getElem_append_right (BZ _)];simpa using dM
   ·have e1:N-(ms++[M]).length=N-ms.length-1:=by rw[AW];simp;omega
    simp only[e1];exact .oA [(0,some 0),(4096,some 4096),(8208,some 8208),(8220,some 8220),(8228,some 8228)] []
  ·have hnl:ms.length=N:=by omega
   refine XE.fin (⟨[A,B],[whoC,sexC,jobC]++ms⟩,a4) ⟨⟨⟨A,B,rfl,dA,dB⟩,⟨ms,.inr ⟨rfl,y2⟩,oM,oM⟩⟩,y3⟩ fun e ⟨_,hst⟩=>?_;refine⟨oM,?_⟩;exact .oA [(0,some 0)] [8208,8220]
 ·refine XE.mp (fun _ _=>C1.draw 0 l a3 _ h2 rfl rfl rfl) ?_;refine sW ?_;refine XE.loopF mixm [4,15] (fun y:List Col×Nat=>y.1.length≤N∧(∀ i (h:i<y.1.length),DrM (2+i) y.1[i])∧y.2≤l.length) (fun y=>[(4,vI ((N-y.1.length:Nat):Int))]) (fun y=>[(0,oC l y.2),(4096,.arr 2 [schT default] false),(8208,.arr 2 [cdlT A,cdlT B] false),(8220,.arr 7 (([whoC,sexC]++y.1).map colT) false),(8228,.arr 2 [.agg [.asl 8208 2,.asl 8220 (2+y.1.length)]] false)]) (fun y=>N-y.1.length) ([],x2.2) ⟨sMp,fun i h=>by simp at h,b2⟩ (fun e ⟨_,hst⟩=>?_) fun T' y hy ih=>?_
  ·show Le _ _ ⟨[(4,vI N),(0,_),(2,_),(3,_)],[(0,oC l x2.2),(4096,.arr 2 [schT default] false),(8208,.arr 2 [cdlT A,cdlT B] false),(8220,.arr 7 [colT whoC,colT sexC] false),(8228,.arr 2 [.agg [.asl 8208 2,.asl 8220 2]] false)]⟩;exact .oA [(0,some 0),(4096,some 4096),(8208,some 8208),(8220,some 8220),(8228,some 8228)] []
  obtain⟨ms,a4⟩:=y;obtain⟨y1,y2,y3⟩:=hy;dsimp only at y1 y2 y3;simp only[tZ,↓un_u,simprocAttr,AZ,Ay];refine XE.brN (fun h4=>?_) (fun h4=>?_)
  ·have hlt:ms.length<N:=by omega
   have hI:=qq9 (2+ms.length) oM;obtain⟨⟨M,a5⟩,⟨dM,ha5⟩,sM⟩:=QA (2+ms.length) l a4 hl y3;dsimp only at dM ha5 sM;have hwk:=zG (i:=N-ms.length) oM oM;refine XE.sd oM ?_;refine XE.mp (fun _ _=>C1.im hI rF rF) ?_;simp only[tZ,↓un_u,simprocAttr,qq8];refine XE.sd (show 1+1≤9223372036854775807 by omega) ?_;refine XE.mp (fun _ _=>C1.draw 0 l a4 _ sM rfl rfl rfl) ?_;simp only[tZ,↓un_u,simprocAttr,hwk];refine XE.sd oM (XE.sd oM (XE.sd kR ?_));refine XE.next ih (ms++[M],a5) ⟨by simp;omega,fun i h=>?_,ha5⟩ (by simp;omega) fun e ⟨_,hst⟩=>?_
   ·dsimp only at h ⊢
    by_cases hi:i<ms.length
    ·rw[List.getElem_append_left hi];exact y2 i hi
    ·have he:i=ms.length:=by rw[AW] at h;simp at h;omega
     subst he;rw[List.getElem_append_right (BZ _)];simpa using dM
   ·have e1:N-(ms++[M]).length=N-ms.length-1:=by rw[AW];simp;omega
    simp only[e1];exact .oA [(0,some 0),(4096,some 4096),(8208,some 8208),(8220,some 8220),(8228,some 8228)] []
  ·have hnl:ms.length=N:=by omega
   refine XE.fin (⟨[A,B],[whoC,sexC]++ms⟩,a4) ⟨⟨⟨A,B,rfl,dA,dB⟩,⟨ms,.inl ⟨rfl,y2⟩,oM,oM⟩⟩,y3⟩ fun e ⟨_,hst⟩=>?_;refine⟨oM,?_⟩;exact .oA [(0,some 0)] [8208,8220]
end Go.Proofs
namespace Go.Proofs
open Go Go.TL
set_option maxRecDepth 4000
set_option maxHeartbeats 4000000
theorem DrS.col {s:Sch} (h:DrS s) {i:Nat} (hi:i<s.cols.length) (hk:(qj s i).kind=3):∃ n,DrM n (qj s i):=by
 obtain⟨ms,hc,h1,h3⟩:=h.cs;have key:∀ (pre:List Col) (n:Nat),(∀ c∈pre,c.kind≠3)→s.cols=pre++ms→(∀ j (hj:j<ms.length),DrM (n+j) ms[j])→∃ n,DrM n (qj s i):=by
  intro pre n hp he hm;rw[qj,qg hi] at hk ⊢
  by_cases c:i<pre.length
  ·have e:s.cols[i]=pre[i]:=by simp only[he];exact List.getElem_append_left c
   rw[e] at hk;exact absurd hk (hp _ (AX c))
  ·have hl:i-pre.length<ms.length:=by rw[he,AW] at hi;omega
   have e:s.cols[i]=ms[i-pre.length]:=by simp only[he];exact List.getElem_append_right oM
   rw[e];exact⟨_,hm _ hl⟩
 rcases hc with⟨hc,hm⟩ | ⟨hc,hm⟩
 ·exact key [whoC,sexC] 2 (by simp [whoC,sexC]) (by rw[hc];rfl) hm
 ·exact key [whoC,sexC,jobC] 3 (by simp [whoC,sexC,jobC]) (by rw[hc];rfl) hm
theorem DrS.nl {s:Sch} (h:DrS s):s.lists.length=2:=by
 obtain⟨a,b,e,_⟩:=h.ls;rw[e];rfl
theorem qi4 (s:Sch) (hd:DrS s) (i:Nat) (hi:i<s.cols.length) (l:List UInt8) (a:Nat) (hl:l.length≤400) (ha:a≤l.length) :
 ∃ r:Int×Nat,(jb s i r.1=true∧(i=0→r.1≤60)∧r.2≤l.length)∧Spc Tryz.prog 48 [.ptr 0 1 0 0,schT s,vI i] [(0,oC l a)] (vI r.1) [(0,oC l r.2)]:=by
 have hE:=hd.ok;have hok:=qV hE;have hat:qj s i=s.cols[i]:=by rw[qj,qg hi]
 have hk:=za (hok.cs i hi);have hH:∀ v,jb s i v=if s.cols[i].kind=1 then inB v 1 1048575
  else if s.cols[i].kind=2 then inB v 0 ((qK s i).codes.length-1)&&(lvlC (qK s i) v==zf (qK s i)-1)
  else (s.cols[i].opt&&(v==kH))||inB v s.cols[i].low s.cols[i].high:=fun v=>by rw[jb,hat]
 by_cases k1:s.cols[i].kind=1
 ·have h1:=zy l a 1 60 hl ha oM oM;have r1:=kM l a (60-1+1) oM;have b1:=qk7 l a (60-1+1) ha;generalize nx l a (60-1+1)=x1 at h1 r1 b1;refine⟨(1+x1.1,x1.2),⟨by rw[hH,Aj k1,Qy];dsimp only;omega,fun _=>by dsimp only;omega,b1⟩,?_⟩;have q:(s.cols[i].kind==1)=true:=AY.2 k1;refine sIr zO fun e _ hst=>?_;unfold zi;simp only[tZ,↓un_u,simprocAttr,Ax,qd hi,q];refine⟨oM,?_⟩;refine C1.draw 0 l a _ h1 rfl rfl rfl ?_;refine sW ?_;exact .oA [(0,some 0)] []
 have q1:(s.cols[i].kind==1)=false:=Ak.2 k1;have hi0:∀ v:Int,i=0→v≤60:=fun v e=>by
  subst e;have:=hok.c0;rw[hat] at this;exact absurd this k1
 by_cases k2:s.cols[i].kind=2
 ·have q2:(s.cols[i].kind==2)=true:=AY.2 k2;have hlv:=JM s hok i hi (by rw[hat];exact k2);have hll:=Ki hok hi (by rw[hat];exact k2);obtain⟨d1,d2⟩:=hok.cdl hi (by rw[hat];exact k2);have hne:0<(qT s i).length:=jq7 d2;have hlh:=fun v=>YP (s:=s) (i:=i) (by rw[hat];exact k2) d2 (v:=v);generalize qT s i=L at hlv hll hne hlh;have h1:=zL l a L.length hl ha oM;have r1:=kM l a L.length oM;have b1:=qk7 l a L.length ha;generalize nx l a L.length=x1 at h1 r1 b1;obtain⟨m,hm⟩:=AJ r1.1;have hmL:m<L.length:=by omega
  rw[hm] at h1;refine⟨(L[m],x1.2),⟨hlh _ (AX hmL),hi0 _,b1⟩,?_⟩;refine sIr zO fun e _ hst=>?_;unfold zi;simp only[tZ,↓un_u,simprocAttr,Ax,qd hi,q1,q2];refine⟨oM,?_⟩;refine C1.im hlv rF rF ?_;refine sW ?_;refine C1.draw 0 l a _ h1 rfl rfl rfl ?_;simp only[tZ,↓un_u,simprocAttr,Ax,qd hmL];refine⟨oM,?_⟩;exact .oA [(0,some 0)] []
 have q2:(s.cols[i].kind==2)=false:=Ak.2 k2;have k3:s.cols[i].kind=3:=by rw[hat] at hk;omega
 obtain⟨n,hM⟩:=hd.col hi (by rw[hat];exact k3);rw[hat] at hM;have hlo:=hM.low;have hhi:=hM.high;have hin:∀ v,s.cols[i].low≤v→v≤s.cols[i].high→jb s i v=true:=fun v h1 h2=>by
  rw[hH,Aq k1,Aq k2,DZ,Qy];exact .inr ⟨h1,h2⟩
 cases ho:s.cols[i].opt with
 | false=>
   obtain⟨v,a2,v1,v2,ha2,sR⟩:=JN l a s.cols[i].low s.cols[i].high hl ha oM oM;refine⟨(v,a2),⟨hin v v1 v2,hi0 _,ha2⟩,?_⟩;refine sIr zO fun e _ hst=>?_;unfold zi;simp only[tZ,↓un_u,simprocAttr,Ax,qd hi,q1,q2,ho];refine⟨oM,?_⟩;refine C2.no sMp ?_;refine sW ?_;refine C1.draw 0 l a _ sR rfl rfl rfl ?_;refine sW ?_;exact .oA [(0,some 0)] []
 | true=>
   obtain⟨o,a1,b1,h1⟩:=jr5 l a 4 hl ha oM;cases o with
   | true=>
     refine⟨(kH,a1),⟨by rw[hH,Aq k1,Aq k2,ho];simp,hi0 _,b1⟩,?_⟩;refine sIr zO fun e _ hst=>?_;unfold zi;simp only[tZ,↓un_u,simprocAttr,Ax,qd hi,q1,q2,ho];refine⟨oM,?_⟩;refine C2.one (by trivial) (C1.draw 0 l a _ h1 rfl rfl rfl ?_);refine sW ?_;exact .oA [(0,some 0)] []
   | false=>
     obtain⟨v,a2,v1,v2,ha2,sR⟩:=JN l a1 s.cols[i].low s.cols[i].high hl b1 oM oM;refine⟨(v,a2),⟨hin v v1 v2,hi0 _,ha2⟩,?_⟩;refine sIr zO fun e _ hst=>?_;unfold zi;simp only[tZ,↓un_u,simprocAttr,Ax,qd hi,q1,q2,ho];refine⟨oM,?_⟩;refine C2.one (by trivial) (C1.draw 0 l a _ h1 rfl rfl rfl ?_);refine sW ?_;refine C1.draw 0 l a1 _ sR rfl rfl rfl ?_;refine sW ?_;exact .oA [(0,some 0)] []
theorem qy2 (s:Sch) (hD:DrS s) (l:List UInt8) (a:Nat) (hl:l.length≤400) (ha:a≤l.length) :
 ∃ r:List Int×Nat,(rowE s r.1=0∧hd r.1≤60∧r.2≤l.length)∧Spc Tryz.prog 88 [.ptr 0 1 0 0,schT s] [(0,oC l a)] (.asl 1 r.1.length) [(0,oC l r.2),(1,.arr 1 (r.1.map vI) false)]:=by
 have hE:=hD.ok;have hnc:=(qV hE).nc;refine zw qv0 mixm (fun r:List Int×Nat=>.asl 1 r.1.length) (fun r=>[(0,oC l r.2),(1,.arr 1 (r.1.map vI) false)]) sMp ?_;unfold yq;refine sW ?_;refine XE.loopF mixm [5,10] (fun y:List Int×Nat=>y.1.length≤s.cols.length∧(∀ i,i<y.1.length→jb s i (y.1.getD i 0)=true)∧hd y.1≤60∧y.2≤l.length) (fun y=>[(5,.asl 1 y.1.length),(10,vI y.1.length)]) (fun y=>[(0,oC l y.2),(4096,.arr 2 [schT s] false),(1,.arr 1 (y.1.map vI) false)]) (fun y=>s.cols.length-y.1.length) ([],a) ⟨sMp,sMp,by simp [hd],ha⟩ (fun e ⟨_,hst⟩=>?_) fun T' y hy ih=>?_
 ·exact .oA [(0,some 0),(4096,some 4096),(1,none)] []
 obtain⟨rs,a1⟩:=y;obtain⟨y1,y2,y5,y3⟩:=hy;dsimp only at y1 y2 y3 y5;simp only[tZ,↓un_u,simprocAttr,AZ,Ay];refine XE.brN (fun h4=>?_) (fun h4=>?_)
 ·have hlt:rs.length<s.cols.length:=by omega
  obtain⟨⟨v,a2⟩,⟨hv,hv6,ha2⟩,sV⟩:=qi4 s hD rs.length hlt l a1 hl y3;dsimp only at hv hv6 ha2 sV;have hwi:=qh (i:=rs.length) oM;refine XE.mp (fun _ _=>C1.draw 0 l a1 _ sV rfl rfl rfl) ?_;simp only[tZ,↓un_u,simprocAttr,hwi];refine XE.sd oM ?_;refine XE.next ih (rs++[v],a2) ⟨by simp;omega,fun i h=>?_,?_,ha2⟩ (by simp;omega) fun e ⟨_,hst⟩=>?_
  ·dsimp only at h ⊢
   by_cases hi:i<rs.length
   ·rw[CY,BK hi,← CY];exact y2 i hi
   ·have he:i=rs.length:=by rw[AW] at h;simp at h;omega
    subst he;rw[CY,BJ (BZ _)];simpa using hv
  ·cases rs with
   | nil=>exact hv6 rfl
   | cons r0 rs=>exact y5
  ·exact .oA [(0,some 0),(4096,some 4096),(1,some 1)] []
 ·have hnl:rs.length=s.cols.length:=by omega
  refine XE.fin (rs,a1) ⟨zJ6 hE hnl y2,y5,y3⟩ fun e ⟨_,hst⟩=>?_;exact .oA [(0,some 0),(1,some 1)] []
theorem qr0 (s:Sch) (hD:DrS s) (l:List UInt8) (a:Nat) (hl:l.length≤400) (ha:a≤l.length) :
 ∃ r:List Int×Nat,(rowE s r.1=0∧hd r.1≤60∧r.2≤l.length)∧Spc Tryz.prog 88 [.ptr 0 1 0 0,schT s] [(0,oC l a)] (vIs r.1) [(0,oC l r.2)]:=by
 obtain⟨r,hr,hs⟩:=qy2 s hD l a hl ha;refine⟨r,hr,hs.weaken ?_⟩;refine .of [(0,some 0)] [1] rfl rfl ?_ ?_
 all_goals (try exact clA)
structure DrX (x:Src):Prop where
 sch:DrS x.sch
 ok:SrcOk x
 gone:x.gone=[]
 ver:x.ver=0
abbrev srcZ (s:Src):T:=.agg [.sl 2 (s.sch.lists.map cdlT),.sl 7 (s.sch.cols.map colT),vRw s.rows,.v (.slice none 0 0),vI s.ver]
theorem qc1 (most:Int) (l:List UInt8) (a:Nat) (hl:l.length≤400) (ha:a≤l.length) (hm:0≤most∧most≤100) :
 ∃ r:Src×Nat,((DrX r.1∧(r.1.rows.length:Int)≤most∧∀ r2∈r.1.rows,hd r2≤60)∧r.2≤l.length)∧Spc Tryz.prog 26 [.ptr 0 1 0 0,vI most] [(0,oC l a)] (srcZ r.1) [(0,oC l r.2)]:=by
 obtain⟨⟨s,a1⟩,⟨hD,ha1⟩,sS⟩:=qi3 l a hl ha;dsimp only at hD ha1 sS;obtain⟨v,a2,v1,v2,ha2,sN⟩:=jZ l a1 (most+1) hl ha1 oM;obtain⟨N,rfl⟩:=AJ v1;have hE:=hD.ok;have hw:IntKind.i64.wrap (most+1)=most+1:=AK _ oM;refine zw qa4 mixm (fun r:Src×Nat=>srcZ r.1) (fun r=>[(0,oC l r.2)]) sMp ?_;unfold kv;refine sW ?_;refine XE.mp (fun _ _=>C1.draw 0 l a _ sS rfl rfl rfl) ?_;simp only[tZ,↓un_u,simprocAttr,hw];refine XE.mp (fun _ _=>C1.draw 0 l a1 _ sN rfl rfl rfl) ?_;refine sW ?_;refine XE.loopF mixm [7] (fun y:Nat×List (List Int)×Nat=>y.1≤N∧y.2.1.length+y.1≤N∧AscR y.2.1∧(∀ r∈y.2.1,rowE s r=0∧hd r≤60)∧y.2.2≤l.length) (fun y=>[(7,vI y.1)]) (fun y=>[(0,oC l y.2.2),(4096,.arr 5 [srcT src0] false),(8200,.arr 2 [schT s] false),(12296,.arr 5 [.agg [.sl 2 (s.lists.map cdlT),.sl 7 (s.cols.map colT),vRw y.2.1,.v (.slice none 0 0),vI 0]] false)]) (fun y=>y.1) (N,[],a2) ⟨sMp,sMp,.nil,sMp,ha2⟩ (fun e ⟨_,hst⟩=>?_) fun T' y hy ih=>?_
 ·exact .oA [(0,some 0),(4096,some 4096),(8200,some 8200),(12296,some 12296)] []
 obtain⟨k,rs,a3⟩:=y;obtain⟨y0,y1,y2,y3,y4⟩:=hy;dsimp only at y0 y1 y2 y3 y4;simp only[tZ,↓un_u,simprocAttr,AZ,Ay];refine XE.brN (fun h4=>?_) (fun h4=>?_)
 ·obtain⟨⟨row,a4⟩,⟨hr,hr6,ha4⟩,sR⟩:=qr0 s hD l a3 hl y4;dsimp only at hr hr6 ha4 sR;have hwk:=zG (i:=k) oM oM;refine XE.mp (fun _ _=>C1.draw 0 l a3 _ sR rfl rfl rfl) ?_;refine sW ?_;refine XE.mp (fun _ _=>C1.im (qR3 rs row oM (fun r hr=>yG (y3 r hr).1) (yG hr)) rF rF) ?_;simp only[tZ,↓un_u,simprocAttr,hwk];refine XE.sd kR ?_;have hpl:=zo5 rs row;refine XE.next ih (k-1,putR rs row,a4) ⟨by dsimp only;omega,by dsimp only;omega,zo3 y2,fun r hr2=>?_,ha4⟩ (by dsimp only;omega) fun e ⟨_,hst⟩=>?_
  ·rcases (zo4 y2).1 hr2 with h | h
   ·rw[h];exact⟨hr,hr6⟩
   ·exact y3 r h.1
  ·exact .oA [(0,some 0),(4096,some 4096),(8200,some 8200),(12296,some 12296)] []
 ·have hk:k=0:=by omega
  refine XE.fin (⟨s,rs,[],0⟩,a3) ⟨⟨⟨hD,⟨hE,by dsimp only;omega,sMp,sMp,fun r hr=>(y3 r hr).1,y2,sMp,.nil⟩,rfl,rfl⟩,by dsimp only;omega,fun r hr=>(y3 r hr).2⟩,y4⟩ fun e ⟨_,hst⟩=>?_;exact .oA [(0,some 0)] []
theorem qc2 (most:Int) (l:List UInt8) (a:Nat) (hl:l.length≤400) (ha:a≤l.length) (hm:0≤most∧most≤100) :
 ∃ r:Src×Nat,((DrX r.1∧(r.1.rows.length:Int)≤most∧∀ r2∈r.1.rows,hd r2≤60)∧r.2≤l.length)∧Spc Tryz.prog 26 [.ptr 0 1 0 0,vI most] [(0,oC l a)] (srcT r.1) [(0,oC l r.2)]:=by
 obtain⟨r,hr,hs⟩:=qc1 most l a hl ha hm;refine⟨r,hr,hs.weaken ?_⟩;have hg:r.1.gone.map vI=[]:=by rw[hr.1.1.gone];rfl
 refine .of [(0,some 0)] [] rfl rfl ?_ ?_
 all_goals (try exact clA)
 all_goals (try exact hg)
end Go.Proofs
namespace Go.Proofs
open Go Go.TL
set_option maxRecDepth 4000
set_option maxHeartbeats 4000000
def KZ (s:Sch) (kind:Int) (n:Nat):List Int:=List.map (fun i:Nat=>(i:Int)) ((List.range n).filter fun i=>(qj s i).kind==kind)
theorem jz (s:Sch) (kind:Int) (n:Nat):KZ s kind (n+1)=KZ s kind n++(if (qj s n).kind=kind then [(n:Int)] else []):=by
 unfold KZ;rw[List.range_succ,FY,By]
 congr 1
 by_cases h:(qj s n).kind=kind
 ·rw[Aj h,List.filter_cons,Aj (AY.2 h)];rfl
 ·rw[Aq h,List.filter_cons,Aq (by rw[AY];exact h)];rfl
theorem qr1 (s:Sch) (kind:Int) (n:Nat):(KZ s kind n).length≤n:=by
 unfold KZ;rw[BY];exact FZ (Fx _ _) sMp
def JO (s:Sch) (kind:Int):List Int:=KZ s kind s.cols.length
theorem Zx {s:Sch} {kind v:Int}:v∈JO s kind↔isB s v kind=true:=by
 unfold JO KZ;rw[zl];simp only[Cj,Fz,Dk,AY];constructor
 ·rintro ⟨i,⟨h1,h2⟩,rfl⟩;exact⟨oM,oM,by rw[Ax];exact h2⟩
 ·rintro ⟨h1,h2,h3⟩;exact⟨v.toNat,⟨oM,h3⟩,oM⟩
theorem yM (s:Sch) (kind:Int) (hn:s.cols.length≤1000):Spc Tryz.prog 183 [schT s,vI kind] [] (vIs (JO s kind)) []:=by
 refine sIr qO5 fun e _ hst=>?_;unfold Zl;refine sW ?_;refine qk mixm (α:=Nat) [5,10] (fun i=>i≤s.cols.length) (fun i=>[(5,.asl 1 (KZ s kind i).length),(10,vI i)]) (fun i=>[(4096,.arr 2 [schT s] false),(1,.arr 1 ((KZ s kind i).map vI) false)]) (fun i=>s.cols.length-i) 0 oM ?_ fun i hi=>?_
 ·show Le _ _ ⟨_,[(4096,.arr 2 [schT s] false),(1,.arr 1 [] false)]⟩;exact .oA [(4096,some 4096),(1,none)] []
 have hfl:=qr1 s kind i;refine sD ?_;refine⟨fun h=>?_,fun h=>?_⟩
 ·have hi2:i<s.cols.length:=by omega
  have hwi:=qh (i:=i) oM;have hat:qj s i=s.cols[i]:=by rw[qj,qg hi2]
  have hsu:=jz s kind i;rw[hat] at hsu;simp only[tZ,↓un_u,simprocAttr,Ax,qd hi2,hwi,AY,Ak];refine⟨oM,fun h2=>?_,fun h2=>?_⟩
  ·rw[Aj h2] at hsu;refine⟨oM,i+1,oM,oM,?_⟩;rw[hsu];exact .oA [(4096,some 4096),(1,some 1)] []
  ·rw[Aq h2,CW] at hsu;refine⟨i+1,oM,oM,?_⟩;rw[hsu];exact .oA [(4096,some 4096),(1,some 1)] []
 ·have hil:i=s.cols.length:=by omega
  subst hil;exact .oA [] [1]
theorem DrS.code {s:Sch} (h:DrS s):0<(JO s 2).length∧(JO s 2).length≤8:=by
 have hnc:=(qV h.ok).nc;have hl:=qr1 s 2 s.cols.length;refine⟨List.length_pos_of_mem (a:=1) (Zx.2 (zl.2 ?_)),by unfold JO;omega⟩;obtain⟨ms,hc,h1,h3⟩:=h.cs;rcases hc with⟨hc,hm⟩ | ⟨hc,hm⟩
 ·refine⟨oM,by rw[hc];simp;omega,by rw[qj,hc];rfl⟩
 ·refine⟨oM,by rw[hc];simp;omega,by rw[qj,hc];rfl⟩
theorem DrS.meas {s:Sch} (h:DrS s):0<(JO s 3).length∧(JO s 3).length≤8:=by
 have hnc:=(qV h.ok).nc;have hl:=qr1 s 3 s.cols.length;refine⟨?_,by unfold JO;omega⟩;obtain⟨ms,hc,h1,h3⟩:=h.cs;rcases hc with⟨hc,hm⟩ | ⟨hc,hm⟩
 ·refine List.length_pos_of_mem (a:=2) (Zx.2 (zl.2 ⟨oM,by rw[hc];simp;omega,?_⟩));have:=(hm 0 h1).kind;rw[qj,hc];show ((whoC::sexC::ms).getD 2 default).kind=3;rw[qg (by simp;omega)];exact this
 ·refine List.length_pos_of_mem (a:=3) (Zx.2 (zl.2 ⟨oM,by rw[hc];simp;omega,?_⟩));have:=(hm 0 h1).kind;rw[qj,hc];show ((whoC::sexC::jobC::ms).getD 3 default).kind=3;rw[qg (by simp;omega)];exact this
theorem jr6 (s:Sch) (hd:DrS s) (l:List UInt8) (a:Nat) (hl:l.length≤400) (ha:a≤l.length) :
 ∃ (v:Nat) (b:Nat),isB s v 2=true∧b≤l.length∧Spc Tryz.prog 117 [.ptr 0 1 0 0,schT s] [(0,oC l a)] (vI v) [(0,oC l b)]:=by
 have hnc:=(qV hd.ok).nc;have hc:=yM s 2 oM;have hm:=fun v=>(Zx (s:=s) (kind:=2) (v:=v)).1;obtain⟨k1,k2⟩:=hd.code;generalize JO s 2=L at hc hm k1 k2;obtain⟨j,b,j1,j2,hb,sN⟩:=jZ l a L.length hl ha oM;obtain⟨m,rfl⟩:=AJ j1;have hmL:m<L.length:=by omega
 have hv:=hm _ (AX hmL);obtain⟨v,e⟩:=AJ (zl.1 hv).1;refine⟨v,b,by rw[← e];exact hv,hb,?_⟩;rw[← e];refine sIr qg4 fun e _ hst=>?_;unfold kV;refine sW ?_;refine C1.im hc rF rF ?_;refine sW ?_;refine C1.draw 0 l a _ sN rfl rfl rfl ?_;simp only[tZ,↓un_u,simprocAttr,Ax,qd hmL];refine⟨oM,?_⟩;exact .oA [(0,some 0)] []
theorem yH (s:Sch) (hd:DrS s) (l:List UInt8) (a:Nat) (hl:l.length≤400) (ha:a≤l.length) :
 ∃ (v:Nat) (b:Nat),isB s v 3=true∧b≤l.length∧Spc Tryz.prog 118 [.ptr 0 1 0 0,schT s] [(0,oC l a)] (vI v) [(0,oC l b)]:=by
 have hnc:=(qV hd.ok).nc;have hc:=yM s 3 oM;have hm:=fun v=>(Zx (s:=s) (kind:=3) (v:=v)).1;obtain⟨k1,k2⟩:=hd.meas;generalize JO s 3=L at hc hm k1 k2;obtain⟨j,b,j1,j2,hb,sN⟩:=jZ l a L.length hl ha oM;obtain⟨m,rfl⟩:=AJ j1;have hmL:m<L.length:=by omega
 have hv:=hm _ (AX hmL);obtain⟨v,e⟩:=AJ (zl.1 hv).1;refine⟨v,b,by rw[← e];exact hv,hb,?_⟩;rw[← e];refine sIr Wr fun e _ hst=>?_;unfold jE;refine sW ?_;refine C1.im hc rF rF ?_;refine sW ?_;refine C1.draw 0 l a _ sN rfl rfl rfl ?_;simp only[tZ,↓un_u,simprocAttr,Ax,qd hmL];refine⟨oM,?_⟩;exact .oA [(0,some 0)] []
end Go.Proofs
namespace Go.Proofs
open Go Go.TL
set_option maxRecDepth 4000
set_option maxHeartbeats 8000000
mutual
def sizC:Cnd→Nat
 | .mk _ _ _ _ _ ks=>qr2 ks+1
def qr2:List Cnd→Nat
 | []=>0
 | k::r=>sizC k+qr2 r
end
theorem zp0 (c:Cnd):sizC c=qr2 c.kids+1:=by cases c;rw[sizC];rfl
theorem jO9:∀ c,∀ m,1≤m→cntC c m≤sizC c:=by
 refine Cnd.ind' fun c ih m hm=>?_;rw[JL,zp0];have key:∀ l:List Cnd,(∀ k∈l,k∈c.kids)→∀ n,n≤m→jW l m n≤n+qr2 l:=by
  intro l
  induction l with
  | nil=>intro _ n h;rw[jW,qr2];omega
  | cons k r ihl=>
    intro hk n h;rw[jW,qr2];split
    ·have c1:=qB2 k (m-n) oM;have c2:=ih k (hk k sMp) (m-n) oM;have c3:=ihl (fun x hx=>hk x (CQ _ hx)) (n+cntC k (m-n)) oM;omega
    ·omega
 have:=key c.kids (fun k hk=>hk) 1 oM;omega
structure CndOk (s:Sch) (n:Nat) (c:Cnd):Prop where
 ok:nodE s c=0
 dep:depC c≤n+1
 siz:sizC c+1≤2 ^ (n+1)
theorem CndOk.chk {s:Sch} {n:Nat} {c:Cnd} (h:CndOk s n c) (hE:schE s=0) (hn:n≤3):chkC s c=0:=by
 have h1:=jO9 c 41 oM;have h2:=h.siz;have h3:=h.dep;have h4:2 ^ (n+1)≤2 ^ 4:=Nat.pow_le_pow_right oM oM;rw[chkC,Aq (by rw[hE];simp),Aq oM,Aq oM];exact h.ok
theorem zJ9 {s:Sch} {c:Cnd} (h1:ndE s c=0) (h2:yc s c.kids=0):nodE s c=0:=by rw[zn0,Aq (by rw[h1];simp)];exact h2
theorem wi {s:Sch} {c:Cnd} (n:Nat) (h1:ndE s c=0) (h2:c.kids=[]):CndOk s n c:=by
 have h3:2 ^ 1≤2 ^ (n+1):=Nat.pow_le_pow_right oM oM;refine⟨zJ9 h1 (by rw[h2,yc]),by rw[qw6,h2,jx];omega,by rw[zp0,h2,qr2];omega⟩
theorem jr7 {s:Sch} {c:Cnd} (h1:¬ (c.op<1∨7<c.op)) (h2:¬ (c.kids.length≠arC c.op∨(c.op≠2∧c.op≠3∧c.op≠4∧c.col≠0)∨(c.op≠2∧c.code≠0)∨(c.op≠3∧(c.lo≠0∨c.hi≠0))))
 (h3:¬ ((c.op=2∧isB s c.col 2=false)∨(c.op=3∧isB s c.col 3=false)∨(c.op=4∧(isB s c.col 3=false∨(qj s c.col.toNat).opt=false))))
 (h4:¬ (c.op=2∧(c.code<0∨c.code≥(qK s c.col.toNat).codes.length))) (h5:¬ (c.op=3∧(c.lo < -1000000∨c.hi>1000000∨c.lo>c.hi))):ndE s c=0:=by
 rw[ndE,Aq h1,Aq h2,Aq h3,Aq h4,Aq h5]
theorem qR7 (s:Sch):ndE s (.mk 1 0 0 0 0 [])=0:=jr7 (by simp [Cnd.op,Cnd.col,Cnd.code,Cnd.lo,Cnd.hi,Cnd.kids]) (by simp [arC,Cnd.op,Cnd.col,Cnd.code,Cnd.lo,Cnd.hi,Cnd.kids]) (by simp [Cnd.op,Cnd.col,Cnd.code,Cnd.lo,Cnd.hi,Cnd.kids]) (by simp [Cnd.op,Cnd.col,Cnd.code,Cnd.lo,Cnd.hi,Cnd.kids]) (by simp [Cnd.op,Cnd.col,Cnd.code,Cnd.lo,Cnd.hi,Cnd.kids])
theorem zW0 {s:Sch} {v:Nat} {k:Int} (h:isB s v 2=true) (h1:0≤k) (h2:k<(qK s v).codes.length):ndE s (.mk 2 v k 0 0 [])=0:=
 jr7 (by simp [Cnd.op,Cnd.col,Cnd.code,Cnd.lo,Cnd.hi,Cnd.kids]) (by simp [arC,Cnd.op,Cnd.col,Cnd.code,Cnd.lo,Cnd.hi,Cnd.kids]) (by simp [Cnd.op,Cnd.col,Cnd.code,Cnd.lo,Cnd.hi,Cnd.kids,h]) (by simp only[Cnd.op,Cnd.col,Cnd.code,Cnd.lo,Cnd.hi,Cnd.kids,Ax];omega) (by simp [Cnd.op,Cnd.col,Cnd.code,Cnd.lo,Cnd.hi,Cnd.kids])
theorem YS {s:Sch} {v:Nat} {a b:Int} (h:isB s v 3=true) (h1 : -1000000≤a) (h2:b≤1000000) (h3:a≤b):ndE s (.mk 3 v 0 a b [])=0:=
 jr7 (by simp [Cnd.op,Cnd.col,Cnd.code,Cnd.lo,Cnd.hi,Cnd.kids]) (by simp [arC,Cnd.op,Cnd.col,Cnd.code,Cnd.lo,Cnd.hi,Cnd.kids]) (by simp [Cnd.op,Cnd.col,Cnd.code,Cnd.lo,Cnd.hi,Cnd.kids,h]) (by simp [Cnd.op,Cnd.col,Cnd.code,Cnd.lo,Cnd.hi,Cnd.kids]) (by simp only[Cnd.op,Cnd.col,Cnd.code,Cnd.lo,Cnd.hi,Cnd.kids];omega)
theorem jr8 {s:Sch} {v:Nat} (h:isB s v 3=true) (h1:(qj s v).opt=true):ndE s (.mk 4 v 0 0 0 [])=0:=
 jr7 (by simp [Cnd.op,Cnd.col,Cnd.code,Cnd.lo,Cnd.hi,Cnd.kids]) (by simp [arC,Cnd.op,Cnd.col,Cnd.code,Cnd.lo,Cnd.hi,Cnd.kids]) (by simp only[Cnd.op,Cnd.col,Cnd.code,Cnd.lo,Cnd.hi,Cnd.kids,Ax,h,h1];simp) (by simp [Cnd.op,Cnd.col,Cnd.code,Cnd.lo,Cnd.hi,Cnd.kids]) (by simp [Cnd.op,Cnd.col,Cnd.code,Cnd.lo,Cnd.hi,Cnd.kids])
theorem jr9 {s:Sch} {op:Int} {ks:List Cnd} (h:op=5∨op=6∨op=7) (hk:ks.length=arC op):ndE s (.mk op 0 0 0 0 ks)=0:=
 jr7 (by simp only[Cnd.op,Cnd.col,Cnd.code,Cnd.lo,Cnd.hi,Cnd.kids];omega) (by simp [Cnd.op,Cnd.col,Cnd.code,Cnd.lo,Cnd.hi,Cnd.kids,hk]) (by simp only[Cnd.op,Cnd.col,Cnd.code,Cnd.lo,Cnd.hi,Cnd.kids];omega) (by simp only[Cnd.op,Cnd.col,Cnd.code,Cnd.lo,Cnd.hi,Cnd.kids];omega) (by simp only[Cnd.op,Cnd.col,Cnd.code,Cnd.lo,Cnd.hi,Cnd.kids];omega)
theorem jU8 {s:Sch} {n:Nat} {c:Cnd} (h:CndOk s n c):CndOk s (n+1) (.mk 7 0 0 0 0 [c]):=by
 have h1:=h.dep;have h2:=h.siz;have h3:2 ^ (n+1+1)=2*2 ^ (n+1):=by rw[Nat.pow_succ];omega
 refine⟨zJ9 (jr9 (.inr (.inr rfl)) rfl) ?_,?_,?_⟩
 ·show yc s [c]=0;rw[yc,Aq (by rw[h.ok];simp),yc]
 ·rw[qw6];show jx [c]+1≤_;rw[jx,jx];omega
 ·rw[zp0];show qr2 [c]+1+1≤_;rw[qr2,qr2];omega
theorem jJ9 {s:Sch} {n:Nat} {c d:Cnd} {op:Int} (ho:op=5∨op=6) (h:CndOk s n c) (g:CndOk s n d):CndOk s (n+1) (.mk op 0 0 0 0 [c,d]):=by
 have h1:=h.dep;have h2:=h.siz;have g1:=g.dep;have g2:=g.siz;have h3:2 ^ (n+1+1)=2*2 ^ (n+1):=by rw[Nat.pow_succ];omega
 refine⟨zJ9 (jr9 oM (by rcases ho with h | h <;> subst h <;> rfl)) ?_,?_,?_⟩
 ·show yc s [c,d]=0;rw[yc,Aq (by rw[h.ok];simp),yc,Aq (by rw[g.ok];simp),yc]
 ·rw[qw6];show jx [c,d]+1≤_;rw[jx,jx,jx];omega
 ·rw[zp0];show qr2 [c,d]+1+1≤_;rw[qr2,qr2,qr2];omega
theorem yI (s:Sch) (hd:DrS s) (l:List UInt8) (hl:l.length≤400):∀ (n:Nat) (a:Nat),a≤l.length→n≤3→
 ∃ r:Cnd×Nat,(CndOk s n r.1∧r.2≤l.length)∧Spc Tryz.prog 57 [.ptr 0 1 0 0,schT s,vI n] [(0,oC l a)] (cnT r.1) [(0,oC l r.2)]:=by
 have hE:=hd.ok;have hok:=qV hE;have hnc:=hok.nc;have hat:∀ i (h:i<s.cols.length),qj s i=s.cols[i]:=fun i h=>by rw[qj,qg h]
 have hnl:=hd.nl;intro n
 induction n with
 | zero=>
   intro a ha _;refine zw ZQ mixm (fun r:Cnd×Nat=>cnT r.1) (fun r=>[(0,oC l r.2)]) sMp ?_;unfold jK;have hz:decide (((0:Nat):Int)>0)=false:=rfl;simp only[tZ,↓un_u,simprocAttr,hz];obtain⟨b,hb2⟩:∃ b,b=a:=⟨_,rfl⟩;rw[← hb2];have hb:b≤l.length:=by omega
   obtain⟨j2,b2,u1,u2,hb2,sN2⟩:=jZ l b 5 hl hb oM;refine XE.mp (fun _ _=>C1.draw 0 l b _ sN2 rfl rfl rfl) ?_;simp only[tZ,↓un_u,simprocAttr,AY,Ak];refine XE.brN (fun h1=>?_) (fun h1=>?_)
   ·obtain⟨v,b3,hv,hb3,sV⟩:=jr6 s hd l b2 hl hb2;obtain⟨_,v2,v3⟩:=zl.1 hv;rw[Ax] at v3;have hil:v<s.cols.length:=by omega
    obtain⟨d1,d2⟩:=hok.cdl hil v3;obtain⟨d3,d4⟩:=(za (hok.cs v hil)).2.2.2.1 v3;have hcl:qK s v=s.lists.getD s.cols[v].list.toNat default:=by rw[qK,hat v hil]
    have hnd:=fun k=>zW0 (k:=k) hv;rw[hat v hil] at d1 d3 d4;rw[hcl,qg d1] at d2 hnd;obtain⟨_,d5,d6⟩:=ze d2;obtain⟨w,b4,w1,w2,hb4,sQ⟩:=jZ l b3 s.lists[s.cols[v].list.toNat].codes.length hl hb3 oM;refine XE.mp (fun _ _=>C1.draw 0 l b2 _ sV rfl rfl rfl) ?_;simp only[tZ,↓un_u,simprocAttr,Ax,qd hil,qd d1];refine XE.sd oM (XE.sd oM ?_);refine XE.mp (fun _ _=>C1.draw 0 l b3 _ sQ rfl rfl rfl) ?_;refine sW ?_;refine XE.sd kR ?_;refine XE.fin (.mk 2 v w 0 0 [],b4) ⟨wi _ (hnd w w1 w2) rfl,hb4⟩ fun e ⟨_,hst⟩=>?_;exact .oA [(0,some 0)] []
   ·refine XE.brN (fun h2=>?_) (fun h2=>?_)
    ·refine XE.brN (fun _=>?_) (fun k=>absurd h2 k);obtain⟨v,b3,hv,hb3,sV⟩:=yH s hd l b2 hl hb2;obtain⟨_,v2,v3⟩:=zl.1 hv;rw[Ax] at v3;have hil:v<s.cols.length:=by omega
     obtain⟨_,hM⟩:=hd.col hil v3;have hlo:=hM.low;rw[hat v hil] at hlo;obtain⟨w,b4,w1,w2,hb4,sQ⟩:=JN l b3 (-3) 40 hl hb3 oM oM;obtain⟨z,b5,z1,z2,hb5,sZ⟩:=jZ l b4 30 hl hb4 oM;have hw1:IntKind.i64.wrap (s.cols[v].low+w)=s.cols[v].low+w:=AK _ oM;have hw2:IntKind.i64.wrap (s.cols[v].low+w+z)=s.cols[v].low+w+z:=AK _ oM;refine XE.mp (fun _ _=>C1.draw 0 l b2 _ sV rfl rfl rfl) ?_;simp only[tZ,↓un_u,simprocAttr,Ax,qd hil];refine XE.sd oM ?_;refine XE.mp (fun _ _=>C1.draw 0 l b3 _ sQ rfl rfl rfl) ?_;simp only[tZ,↓un_u,simprocAttr,hw1];refine XE.sd kR ?_;refine XE.mp (fun _ _=>C1.draw 0 l b4 _ sZ rfl rfl rfl) ?_;simp only[tZ,↓un_u,simprocAttr,hw2];refine XE.fin (.mk 3 v 0 (s.cols[v].low+w) (s.cols[v].low+w+z) [],b5) ⟨wi _ (YS hv oM oM oM) rfl,hb5⟩ fun e ⟨_,hst⟩=>?_;exact .oA [(0,some 0)] []
    ·refine XE.brN (fun h3=>?_) (fun h3=>?_)
     ·obtain⟨v,b3,hv,hb3,sV⟩:=yH s hd l b2 hl hb2;obtain⟨_,v2,v3⟩:=zl.1 hv;rw[Ax] at v3;have hil:v<s.cols.length:=by omega
      obtain⟨_,hM⟩:=hd.col hil v3;have hlo:=hM.low;rw[hat v hil] at hlo;obtain⟨w,b4,w1,w2,hb4,sQ⟩:=JN l b3 (-3) 40 hl hb3 oM oM;obtain⟨z,b5,z1,z2,hb5,sZ⟩:=jZ l b4 30 hl hb4 oM;have hw1:IntKind.i64.wrap (s.cols[v].low+w)=s.cols[v].low+w:=AK _ oM;have hw2:IntKind.i64.wrap (s.cols[v].low+w+z)=s.cols[v].low+w+z:=AK _ oM;refine XE.mp (fun _ _=>C1.draw 0 l b2 _ sV rfl rfl rfl) ?_;simp only[tZ,↓un_u,simprocAttr,Ax,qd hil];refine XE.sd oM ?_;refine XE.mp (fun _ _=>C1.draw 0 l b3 _ sQ rfl rfl rfl) ?_;simp only[tZ,↓un_u,simprocAttr,hw1];refine XE.sd kR ?_;refine XE.mp (fun _ _=>C1.draw 0 l b4 _ sZ rfl rfl rfl) ?_;simp only[tZ,↓un_u,simprocAttr,hw2];refine XE.fin (.mk 3 v 0 (s.cols[v].low+w) (s.cols[v].low+w+z) [],b5) ⟨wi _ (YS hv oM oM oM) rfl,hb5⟩ fun e ⟨_,hst⟩=>?_;exact .oA [(0,some 0)] []
     ·refine XE.brN (fun h4=>?_) (fun h4=>?_)
      ·obtain⟨v,b3,hv,hb3,sV⟩:=yH s hd l b2 hl hb2;obtain⟨_,v2,v3⟩:=zl.1 hv;rw[Ax] at v3;have hil:v<s.cols.length:=by omega
       refine XE.mp (fun _ _=>C1.draw 0 l b2 _ sV rfl rfl rfl) ?_;simp only[tZ,↓un_u,simprocAttr,Ax,qd hil];refine XE.sd oM ?_;refine XE.brB (fun h5=>?_) (fun h5=>?_)
       ·refine XE.fin (.mk 4 v 0 0 0 [],b3) ⟨wi _ (jr8 hv (by rw[hat v hil];exact h5)) rfl,hb3⟩ fun e ⟨_,hst⟩=>?_;exact .oA [(0,some 0)] []
       ·refine XE.fin (.mk 1 0 0 0 0 [],b3) ⟨wi _ (qR7 s) rfl,hb3⟩ fun e ⟨_,hst⟩=>?_;exact .oA [(0,some 0)] []
      ·refine XE.fin (.mk 1 0 0 0 0 [],b2) ⟨wi _ (qR7 s) rfl,hb2⟩ fun e ⟨_,hst⟩=>?_;exact .oA [(0,some 0)] []
 | succ n ih=>
   intro a ha hn;have hz:decide (((n+1:Nat):Int)>0)=true:=Cx oM;have hwp:IntKind.i64.wrap (((n+1:Nat):Int)-1)=n:=by rw[AK _ oM];omega
   obtain⟨j,b,j1,j2,hb,sN⟩:=jZ l a 5 hl ha oM;obtain⟨⟨c1,b1⟩,⟨hc1,hb1⟩,sC1⟩:=ih b hb oM;dsimp only at hc1 hb1 sC1;obtain⟨⟨c2,b2⟩,⟨hc2,hb2⟩,sC2⟩:=ih b1 hb1 oM;dsimp only at hc2 hb2 sC2;refine zw ZQ mixm (fun r:Cnd×Nat=>cnT r.1) (fun r=>[(0,oC l r.2)]) sMp ?_;unfold jK;simp only[tZ,↓un_u,simprocAttr,hz];refine XE.mp (fun _ _=>C1.draw 0 l a _ sN rfl rfl rfl) ?_;simp only[tZ,↓un_u,simprocAttr,hwp,AY,Ak];refine XE.brN (fun h2=>?_) (fun h2=>XE.brN (fun h3=>?_) (fun h3=>XE.brN (fun h4=>?_) (fun h4=>?_)))
   ·refine XE.mp (fun _ _=>C1.draw 0 l b _ sC1 rfl rfl rfl) ?_;refine sW ?_;refine XE.fin (.mk 7 0 0 0 0 [c1],b1) ⟨jU8 hc1,hb1⟩ fun e ⟨_,hst⟩=>?_;show yh _ _ _ (.agg [vI 7,vI 0,vI 0,vI 0,vI 0,.sl 6 [cndT c1]]) _;rw[zh];exact .oA [(0,some 0)] [20500]
   ·refine XE.mp (fun _ _=>C1.draw 0 l b _ sC1 rfl rfl rfl) ?_;simp only[tZ,↓un_u,simprocAttr,hwp];refine XE.mp (fun _ _=>C1.draw 0 l b1 _ sC2 rfl rfl rfl) ?_;refine sW ?_;refine XE.sd kR ?_;refine XE.fin (.mk 5 0 0 0 0 [c1,c2],b2) ⟨jJ9 oM hc1 hc2,hb2⟩ fun e ⟨_,hst⟩=>?_;show yh _ _ _ (.agg [vI 5,vI 0,vI 0,vI 0,vI 0,.sl 6 [cndT c1,cndT c2]]) _;rw[zh,zh];exact .oA [(0,some 0)] [28712]
   ·refine XE.mp (fun _ _=>C1.draw 0 l b _ sC1 rfl rfl rfl) ?_;simp only[tZ,↓un_u,simprocAttr,hwp];refine XE.mp (fun _ _=>C1.draw 0 l b1 _ sC2 rfl rfl rfl) ?_;refine sW ?_;refine XE.sd kR ?_;refine XE.fin (.mk 6 0 0 0 0 [c1,c2],b2) ⟨jJ9 oM hc1 hc2,hb2⟩ fun e ⟨_,hst⟩=>?_;show yh _ _ _ (.agg [vI 6,vI 0,vI 0,vI 0,vI 0,.sl 6 [cndT c1,cndT c2]]) _;rw[zh,zh];exact .oA [(0,some 0)] [36904]
   ·obtain⟨j2,b2,u1,u2,hb2,sN2⟩:=jZ l b 5 hl hb oM;refine XE.mp (fun _ _=>C1.draw 0 l b _ sN2 rfl rfl rfl) ?_;simp only[tZ,↓un_u,simprocAttr,AY,Ak];refine XE.brN (fun h1=>?_) (fun h1=>?_)
    ·obtain⟨v,b3,hv,hb3,sV⟩:=jr6 s hd l b2 hl hb2;obtain⟨_,v2,v3⟩:=zl.1 hv;rw[Ax] at v3;have hil:v<s.cols.length:=by omega
     obtain⟨d1,d2⟩:=hok.cdl hil v3;obtain⟨d3,d4⟩:=(za (hok.cs v hil)).2.2.2.1 v3;have hcl:qK s v=s.lists.getD s.cols[v].list.toNat default:=by rw[qK,hat v hil]
     have hnd:=fun k=>zW0 (k:=k) hv;rw[hat v hil] at d1 d3 d4;rw[hcl,qg d1] at d2 hnd;obtain⟨_,d5,d6⟩:=ze d2;obtain⟨w,b4,w1,w2,hb4,sQ⟩:=jZ l b3 s.lists[s.cols[v].list.toNat].codes.length hl hb3 oM;refine XE.mp (fun _ _=>C1.draw 0 l b2 _ sV rfl rfl rfl) ?_;simp only[tZ,↓un_u,simprocAttr,Ax,qd hil,qd d1];refine XE.sd oM (XE.sd oM ?_);refine XE.mp (fun _ _=>C1.draw 0 l b3 _ sQ rfl rfl rfl) ?_;refine sW ?_;refine XE.sd kR ?_;refine XE.fin (.mk 2 v w 0 0 [],b4) ⟨wi _ (hnd w w1 w2) rfl,hb4⟩ fun e ⟨_,hst⟩=>?_;exact .oA [(0,some 0)] []
    ·refine XE.brN (fun h2=>?_) (fun h2=>?_)
     ·refine XE.brN (fun _=>?_) (fun k=>absurd h2 k);obtain⟨v,b3,hv,hb3,sV⟩:=yH s hd l b2 hl hb2;obtain⟨_,v2,v3⟩:=zl.1 hv;rw[Ax] at v3;have hil:v<s.cols.length:=by omega
      obtain⟨_,hM⟩:=hd.col hil v3;have hlo:=hM.low;rw[hat v hil] at hlo;obtain⟨w,b4,w1,w2,hb4,sQ⟩:=JN l b3 (-3) 40 hl hb3 oM oM;obtain⟨z,b5,z1,z2,hb5,sZ⟩:=jZ l b4 30 hl hb4 oM;have hw1:IntKind.i64.wrap (s.cols[v].low+w)=s.cols[v].low+w:=AK _ oM;have hw2:IntKind.i64.wrap (s.cols[v].low+w+z)=s.cols[v].low+w+z:=AK _ oM;refine XE.mp (fun _ _=>C1.draw 0 l b2 _ sV rfl rfl rfl) ?_;simp only[tZ,↓un_u,simprocAttr,Ax,qd hil];refine XE.sd oM ?_;refine XE.mp (fun _ _=>C1.draw 0 l b3 _ sQ rfl rfl rfl) ?_;simp only[tZ,↓un_u,simprocAttr,hw1];refine XE.sd kR ?_;refine XE.mp (fun _ _=>C1.draw 0 l b4 _ sZ rfl rfl rfl) ?_;simp only[tZ,↓un_u,simprocAttr,hw2];refine XE.fin (.mk 3 v 0 (s.cols[v].low+w) (s.cols[v].low+w+z) [],b5) ⟨wi _ (YS hv oM oM oM) rfl,hb5⟩ fun e ⟨_,hst⟩=>?_;exact .oA [(0,some 0)] []
     ·refine XE.brN (fun h3=>?_) (fun h3=>?_)
      ·obtain⟨v,b3,hv,hb3,sV⟩:=yH s hd l b2 hl hb2;obtain⟨_,v2,v3⟩:=zl.1 hv;rw[Ax] at v3;have hil:v<s.cols.length:=by omega
       obtain⟨_,hM⟩:=hd.col hil v3;have hlo:=hM.low;rw[hat v hil] at hlo;obtain⟨w,b4,w1,w2,hb4,sQ⟩:=JN l b3 (-3) 40 hl hb3 oM oM;obtain⟨z,b5,z1,z2,hb5,sZ⟩:=jZ l b4 30 hl hb4 oM;have hw1:IntKind.i64.wrap (s.cols[v].low+w)=s.cols[v].low+w:=AK _ oM;have hw2:IntKind.i64.wrap (s.cols[v].low+w+z)=s.cols[v].low+w+z:=AK _ oM;refine XE.mp (fun _ _=>C1.draw 0 l b2 _ sV rfl rfl rfl) ?_;simp only[tZ,↓un_u,simprocAttr,Ax,qd hil];refine XE.sd oM ?_;refine XE.mp (fun _ _=>C1.draw 0 l b3 _ sQ rfl rfl rfl) ?_;simp only[tZ,↓un_u,simprocAttr,hw1];refine XE.sd kR ?_;refine XE.mp (fun _ _=>C1.draw 0 l b4 _ sZ rfl rfl rfl) ?_;simp only[tZ,↓un_u,simprocAttr,hw2];refine XE.fin (.mk 3 v 0 (s.cols[v].low+w) (s.cols[v].low+w+z) [],b5) ⟨wi _ (YS hv oM oM oM) rfl,hb5⟩ fun e ⟨_,hst⟩=>?_;exact .oA [(0,some 0)] []
      ·refine XE.brN (fun h4=>?_) (fun h4=>?_)
       ·obtain⟨v,b3,hv,hb3,sV⟩:=yH s hd l b2 hl hb2;obtain⟨_,v2,v3⟩:=zl.1 hv;rw[Ax] at v3;have hil:v<s.cols.length:=by omega
        refine XE.mp (fun _ _=>C1.draw 0 l b2 _ sV rfl rfl rfl) ?_;simp only[tZ,↓un_u,simprocAttr,Ax,qd hil];refine XE.sd oM ?_;refine XE.brB (fun h5=>?_) (fun h5=>?_)
        ·refine XE.fin (.mk 4 v 0 0 0 [],b3) ⟨wi _ (jr8 hv (by rw[hat v hil];exact h5)) rfl,hb3⟩ fun e ⟨_,hst⟩=>?_;exact .oA [(0,some 0)] []
        ·refine XE.fin (.mk 1 0 0 0 0 [],b3) ⟨wi _ (qR7 s) rfl,hb3⟩ fun e ⟨_,hst⟩=>?_;exact .oA [(0,some 0)] []
       ·refine XE.fin (.mk 1 0 0 0 0 [],b2) ⟨wi _ (qR7 s) rfl,hb2⟩ fun e ⟨_,hst⟩=>?_;exact .oA [(0,some 0)] []
end Go.Proofs
namespace Go.Proofs
open Go Go.TL
set_option maxRecDepth 4000
set_option maxHeartbeats 8000000
theorem qR8 (s:Sch) (kind:Int):(JO s kind).Nodup:=by
 unfold JO KZ;show List.Pairwise (·≠·) _;rw[List.pairwise_map];exact ((List.nodup_range).filter _).imp fun h e=>h oM
theorem DrS.code2 {s:Sch} (h:DrS s):(JO s 2).length≤2:=by
 obtain⟨ms,hc,h1,h3⟩:=h.cs;have key:∀ (pre:List Col) (n:Nat),s.cols=pre++ms→(∀ j (hj:j<ms.length),DrM (n+j) ms[j])→(JO s 2).length=(KZ s 2 pre.length).length:=by
  intro pre n he hm;unfold JO;have k2:∀ m,pre.length+m≤s.cols.length→(KZ s 2 (pre.length+m)).length=(KZ s 2 pre.length).length:=by
   intro m
   induction m with
   | zero=>intro _;rfl
   | succ m ih=>
     intro hle;have hl:m<ms.length:=by rw[he,AW] at hle;omega
     have hk:(qj s (pre.length+m)).kind=3:=by
      rw[qj,he,CY,BJ oM,Nat.add_sub_cancel_left,CK hl];exact (hm m hl).kind
     rw[← Nat.add_assoc,jz,Aq (by rw[hk];decide),CW];exact ih oM
  have:=k2 ms.length (by rw[he,AW];omega);rw[← AW,← he] at this;exact this
 rcases hc with⟨hc,hm⟩ | ⟨hc,hm⟩
 ·rw[key [whoC,sexC] 2 (by rw[hc];rfl) hm];have:=jz s 2 1;have h0:=jz s 2 0;have e0:(qj s 0).kind=1:=by rw[qj,hc];rfl
  rw[e0] at h0;show (KZ s 2 (1+1)).length≤2;have:=qr1 s 2 2;omega
 ·rw[key [whoC,sexC,jobC] 3 (by rw[hc];rfl) hm];have h2:=jz s 2 2;have h1:=jz s 2 1;have h0:=jz s 2 0;have e0:(qj s 0).kind=1:=by rw[qj,hc];rfl
  have e1:(qj s 1).kind=2:=by rw[qj,hc];rfl
  have e2:(qj s 2).kind=2:=by rw[qj,hc];rfl
  rw[e0,Aq (by decide)] at h0;rw[e1,Aj rfl] at h1;rw[e2,Aj rfl] at h2;show (KZ s 2 (2+1)).length≤2;rw[h2,h1,h0];simp [KZ]
structure DimOk (s:Sch) (L:List Int) (l:List Pk):Prop where
 cols:l.map (·.col)=L
 pick:∀ p∈l,kI s p=0
theorem DimOk.dims {s:Sch} {L:List Int} {l:List Pk} (h:DimOk s L l) (h1:1≤L.length) (h2:L.length≤3) (hn:L.Nodup) (hc:∀ v∈L,isB s v 2=true):Zv s l=0:=by
 have hl:l.length=L.length:=by rw[← h.cols,BY]
 rw[Zv,Aq oM];refine Kh fun i hi=>?_;have hpi:pkAt l i=l[i]:=by rw[pkAt,qg hi]
 have hm:l[i]∈l:=AX hi;rw[dimE,hpi,Aq (by rw[h.pick _ hm];simp),Aq (by rw[hc _ (by rw[← h.cols];exact List.mem_map_of_mem hm)];simp),Aq];intro k;obtain⟨x,hx,e⟩:=DJ.1 k;obtain⟨j,hj,rfl⟩:=List.mem_take_iff_getElem.1 hx;rw[← h.cols] at hn;have:=DX.1 hn j i (by simp;omega) (by simp;omega) oM;simp only[Fj] at this;exact this (AY.1 e)
theorem zK0 {s:Sch} (hE:schE s=0) {v:Nat} (h:isB s v 2=true∨isB s v 3=true):1≤v∧v<s.cols.length∧0≤finI s v∧finI s v≤59:=by
 have hok:=qV hE;have hb:∃ k,2≤k∧isB s v k=true:=by rcases h with h | h <;> exact⟨_,oM,h⟩
 obtain⟨k,hk,hb⟩:=hb;obtain⟨_,b2,b3⟩:=zl.1 hb;rw[Ax] at b3;have hv:v≠0:=fun e=>by subst e;have:=hok.c0;omega
 refine⟨oM,oM,?_,qx2 hE⟩;rw[finI,Aq oM,Ax];split
 ·rename_i h2;have:=zm6 (hok.cdl oM h2).2;omega
 ·omega
theorem ki (s:Sch) (hd:DrS s) (l:List UInt8) (a:Nat) (hl:l.length≤400) (ha:a≤l.length) :
 ∃ r:List Pk×Nat,(Zv s r.1=0∧r.2≤l.length)∧Spc Tryz.prog 120 [.ptr 0 1 0 0,schT s] [(0,oC l a)] (vPs r.1) [(0,oC l r.2)]:=by
 have hE:=hd.ok;have hok:=qV hE;have hnc:=hok.nc;have hc:=yM s 2 oM;have hm:=fun v=>(Zx (s:=s) (kind:=2) (v:=v)).1;have hnd:=qR8 s 2;have hc2:=hd.code2;obtain⟨k1,k2⟩:=hd.code;generalize JO s 2=L at hc hm hnd hc2 k1 k2;obtain⟨o,a1,ha1,sO⟩:=jr5 l a 2 hl ha oM;obtain⟨j,a2,j1,j2,ha2,sN⟩:=jZ l a1 L.length hl ha1 oM;obtain⟨m,rfl⟩:=AJ j1;refine zw qm5 mixm (fun r:List Pk×Nat=>vPs r.1) (fun r=>[(0,oC l r.2)]) sMp ?_;unfold wH;refine sW ?_;refine XE.mp (fun _ _=>C1.im hc rF rF) ?_;refine sW ?_;refine XE.mp (fun _ _=>C1.draw 0 l a _ sO rfl rfl rfl) ?_;refine sW ?_;refine XE.brB (fun ho=>?_) (fun ho=>?_)
 focus
  refine XE.mp (fun _ _=>C1.draw 0 l a1 _ sN rfl rfl rfl) ?_;simp only[tZ,↓un_u,simprocAttr,WO,jz6];have hmd:∀ v∈L.drop m,isB s v 2=true:=fun v hv=>hm v (EW hv);have hnd2:(L.drop m).Nodup:=hnd.sublist (List.drop_sublist m L);have hl2:1≤(L.drop m).length∧(L.drop m).length≤2:=by rw[List.length_drop];omega
  generalize L.drop m=M at hmd hnd2 hl2 ⊢
  obtain⟨b,hb⟩:∃ b,b=a2:=⟨_,rfl⟩;rw[← hb];have hb:b≤l.length:=by omega
  refine XE.sd oM ?_
 rotate_left
 focus
  have hmd:=hm;have hnd2:=hnd;have hl2:1≤L.length∧L.length≤2:=by omega
  obtain⟨M,hM⟩:∃ M,M=L:=⟨_,rfl⟩;rw[← hM] at hmd hnd2 hl2 ⊢
  obtain⟨b,hb⟩:∃ b,b=a1:=⟨_,rfl⟩;rw[← hb];have hb:b≤l.length:=by omega
 all_goals (
  refine XE.loopF mixm [5,20] (fun y:List Pk×Nat=>y.1.length≤M.length∧DimOk s (M.take y.1.length) y.1∧y.2≤l.length) (fun y=>[(5,.asl 1 y.1.length),(20,vI y.1.length)]) (fun y=>[(0,oC l y.2),(4096,.arr 2 [schT s] false),(1,.arr 2 (y.1.map pkT) false)]) (fun y=>M.length-y.1.length) ([],b) ⟨sMp,⟨rfl,sMp⟩,hb⟩ (fun e ⟨_,hst⟩=>?_) fun T' y hy ih=>?_
  ·exact .oA [(0,some 0),(4096,some 4096),(1,none)] []
  obtain⟨ps,a4⟩:=y;obtain⟨y1,y2,y3⟩:=hy;dsimp only at y1 y2 y3;simp only[tZ,↓un_u,simprocAttr,AZ,Ay];refine XE.brN (fun h4=>?_) (fun h4=>?_)
  ·have hi2:ps.length<M.length:=by omega
   have hwi:=qh (i:=ps.length) oM;have hiB:=hmd _ (AX hi2);have htk:=qH hi2;obtain⟨v,hv⟩:=AJ (zl.1 hiB).1;have hgv:(M.map vI).getD ps.length .junk=vI v:=by rw[qd hi2,hv]
   rw[hv] at hiB htk;obtain⟨f1,f2,f3,f4⟩:=zK0 hE (.inl hiB);have hFin:=jh s hok.sm v;obtain⟨w,a5,w1,w2,hw,sQ⟩:=jZ l a4 (finI s v+1) hl y3 oM;have hwf:IntKind.i64.wrap (finI s v+1)=finI s v+1:=AK _ oM;simp only[tZ,↓un_u,simprocAttr,Ax,hgv];refine XE.sd oM (XE.sd oM ?_);refine XE.mp (fun _ _=>C1.im hFin rF rF) ?_;simp only[tZ,↓un_u,simprocAttr,hwf];refine XE.mp (fun _ _=>C1.draw 0 l a4 _ sQ rfl rfl rfl) ?_;simp only[tZ,↓un_u,simprocAttr,hwi];refine XE.sd oM (XE.sd kR ?_);refine XE.next ih (ps++[⟨v,w⟩],a5) ⟨by simp;omega,⟨?_,fun p hp=>?_⟩,hw⟩ (by simp;omega) fun e ⟨_,hst⟩=>?_
   ·dsimp only;rw[AW,By,y2.cols];exact htk.symm
   ·rcases Dz.1 hp with hp | hp
    ·exact y2.pick p hp
    ·rw[Ey.1 hp,kI,Aq (by rw[hE];simp),Aq (by dsimp only;omega),Aq];rw[Ez,Qy];dsimp only;omega
   ·exact .oA [(0,some 0),(4096,some 4096),(1,some 1)] []
  ·have hil:ps.length=M.length:=by omega
   rw[hil,Bw] at y2;refine XE.fin (ps,a4) ⟨y2.dims hl2.1 oM hnd2 hmd,y3⟩ fun e ⟨_,hst⟩=>?_;exact .oA [(0,some 0)] [1]
  )
end Go.Proofs
namespace Go.Proofs
open Go Go.TL
set_option maxRecDepth 4000
set_option maxHeartbeats 8000000
theorem DrS.meas3 {s:Sch} (h:DrS s):(JO s 3).length≤3:=by
 obtain⟨ms,hc,h1,h3⟩:=h.cs;have key:∀ n,(KZ s 3 n).length≤n-2:=by
  have e0:(qj s 0).kind=1:=by rcases hc with⟨hc,_⟩ | ⟨hc,_⟩ <;> (rw[qj,hc];rfl)
  have e1:(qj s 1).kind=2:=by rcases hc with⟨hc,_⟩ | ⟨hc,_⟩ <;> (rw[qj,hc];rfl)
  intro n
  induction n with
  | zero=>simp [KZ]
  | succ n ih=>
    rw[jz,AW];by_cases k0:n=0
    ·subst k0;rw[e0,Aq (by decide),Cw];omega
    ·by_cases k1:n=1
     ·subst k1;rw[e1,Aq (by decide),Cw];omega
     ·split <;> simp <;> omega
 rcases hc with⟨hc,hm⟩ | ⟨hc,hm⟩
 ·have:=key s.cols.length;have hl:s.cols.length=ms.length+2:=by rw[hc];rfl
  unfold JO;omega
 ·have e2:(qj s 2).kind=2:=by rw[qj,hc];rfl
  have k2:∀ n,3≤n→(KZ s 3 n).length≤n-3:=by
   intro n hn
   induction n with
   | zero=>omega
   | succ n ih=>
     by_cases k:n=2
     ·subst k;rw[jz,e2,Aq (by decide),CW];have:=key 2;omega
     ·rw[jz,AW];have:=ih oM;split <;> simp <;> omega
  have hl:s.cols.length=ms.length+3:=by rw[hc];rfl
  have:=k2 s.cols.length oM;unfold JO;omega
theorem jB7 {s:Sch} {m:Int} {ts:List Int} (h1:1≤ts.length) (h2:ts.length≤3) (h3:∀ v∈ts,isB s v 3=true∧v≠m) (h4:ts.Nodup):kJ s m ts=0:=by
 rw[kJ,Aq oM];refine Kh fun i hi=>?_;have hpi:ts.getD i 0=ts[i]:=qg hi;obtain⟨a,b⟩:=h3 _ (AX hi);rw[qQ2,hpi,Aq (by rw[a];simp),Aq];rintro (k | k)
 ·exact b k
 ·obtain⟨j,hj,e⟩:=List.mem_take_iff_getElem.1 (FQ.1 k);exact DX.1 h4 j i oM hi oM e
theorem qr3 (s:Sch) (hd:DrS s) (m:Int) (l:List UInt8) (a:Nat) (hl:l.length≤400) (ha:a≤l.length) :
 ∃ r:List Int×Nat,((r.1.length≤3∧(0<r.1.length→kJ s m r.1=0))∧r.2≤l.length)∧Spc Tryz.prog 119 [.ptr 0 1 0 0,schT s,vI m] [(0,oC l a)] (vIs r.1) [(0,oC l r.2)]:=by
 have hE:=hd.ok;have hnc:=(qV hE).nc;have hc:=yM s 3 oM;have hm:=fun v=>(Zx (s:=s) (kind:=3) (v:=v)).1;have hnd:=qR8 s 3;have hc3:=hd.meas3;generalize JO s 3=L at hc hm hnd hc3;refine zw qg6 mixm (fun r:List Int×Nat=>vIs r.1) (fun r=>[(0,oC l r.2)]) sMp ?_;unfold kW;refine sW ?_;refine XE.mp (fun _ _=>C1.im hc rF rF) ?_;refine sW ?_;refine XE.loopF mixm [7,14] (fun y:Nat×List Int×Nat=>y.1≤L.length∧y.2.1.Sublist (L.take y.1)∧(∀ v∈y.2.1,v≠m)∧y.2.2≤l.length) (fun y=>[(7,.asl 1 y.2.1.length),(14,vI y.1)]) (fun y=>[(0,oC l y.2.2),(4096,.arr 2 [schT s] false),(1,.arr 1 (y.2.1.map vI) false)]) (fun y=>L.length-y.1) (0,[],a) ⟨sMp,sMp,sMp,ha⟩ (fun e ⟨_,hst⟩=>?_) fun T' y hy ih=>?_
 ·exact .oA [(0,some 0),(4096,some 4096),(1,none)] []
 obtain⟨i,ts,a1⟩:=y;obtain⟨y1,y2,y3,y4⟩:=hy;dsimp only at y1 y2 y3 y4;have hsl:=y2.length_le;rw[Cz] at hsl;simp only[tZ,↓un_u,simprocAttr,AZ,Ay];refine XE.brN (fun h4=>?_) (fun h4=>?_)
 ·have hi2:i<L.length:=by omega
  have hwi:=qh (i:=i) oM;have htk:=qH hi2;have hsub:ts.Sublist (L.take (i+1)):=by rw[htk];exact y2.trans (List.sublist_append_left _ _)
  have hsub2:(ts++[L[i]]).Sublist (L.take (i+1)):=by rw[htk];exact y2.append (List.Sublist.refl _)
  have hgi:(L.map vI).getD i .junk=vI L[i]:=qd hi2;obtain⟨o,a2,ha2,sO⟩:=jr5 l a1 2 hl y4 oM;generalize L[i]=v at hgi hsub2;simp only[tZ,↓un_u,simprocAttr,Ax,hgi];refine XE.sd oM ?_;by_cases hv:v=m
  ·have q:(v != m)=false:=Aw.2 hv;simp only[tZ,↓un_u,simprocAttr,q];refine XE.mp (fun _ _=>C2.no sMp) ?_;simp only[tZ,↓un_u,simprocAttr,hwi];refine XE.next ih (i+1,ts,a1) ⟨by dsimp only;omega,hsub,y3,y4⟩ (by dsimp only;omega) fun e ⟨_,hst⟩=>?_;exact .oA [(0,some 0),(4096,some 4096),(1,some 1)] []
  ·have q:(v != m)=true:=Bj.2 hv;have hin:∀ u∈ts++[v],u≠m:=fun u hu=>by
    rcases Dz.1 hu with h | h
    ·exact y3 u h
    ·rw[Ey.1 h];exact hv
   by_cases hts:ts.length=0
   ·have q2:((ts.length:Int)==0)=true:=AY.2 oM;simp only[tZ,↓un_u,simprocAttr,q,q2];refine XE.mp (fun _ _=>C2.no sMp) ?_;simp only[tZ,↓un_u,simprocAttr,Ax,hgi,hwi];refine XE.sd oM (XE.sd oM ?_);refine XE.next ih (i+1,ts++[v],a1) ⟨by dsimp only;omega,hsub2,hin,y4⟩ (by dsimp only;omega) fun e ⟨_,hst⟩=>?_;exact .oA [(0,some 0),(4096,some 4096),(1,some 1)] []
   ·have q2:((ts.length:Int)==0)=false:=Ak.2 oM;simp only[tZ,↓un_u,simprocAttr,q,q2];refine XE.mp (fun _ _=>C2.one (by trivial)) ?_;refine XE.mp (fun _ _=>C1.draw 0 l a1 _ sO rfl rfl rfl) ?_;simp only[tZ,↓un_u,simprocAttr,Ax,hgi,hwi];refine XE.brB (fun h5=>?_) (fun h5=>?_)
    ·refine XE.sd oM (XE.sd oM ?_);refine XE.next ih (i+1,ts++[v],a2) ⟨by dsimp only;omega,hsub2,hin,ha2⟩ (by dsimp only;omega) fun e ⟨_,hst⟩=>?_;exact .oA [(0,some 0),(4096,some 4096),(1,some 1)] []
    ·refine XE.next ih (i+1,ts,a2) ⟨by dsimp only;omega,hsub,y3,ha2⟩ (by dsimp only;omega) fun e ⟨_,hst⟩=>?_;exact .oA [(0,some 0),(4096,some 4096),(1,some 1)] []
 ·have hil:i=L.length:=by omega
  rw[hil,Bw] at y2;refine XE.fin (ts,a1) ⟨⟨by dsimp only;omega,fun h=>jB7 h (by dsimp only;omega) (fun v hv=>⟨hm v (y2.subset hv),y3 v hv⟩) (hnd.sublist y2)⟩,y4⟩ fun e ⟨_,hst⟩=>?_;exact .oA [(0,some 0)] [1]
end Go.Proofs
