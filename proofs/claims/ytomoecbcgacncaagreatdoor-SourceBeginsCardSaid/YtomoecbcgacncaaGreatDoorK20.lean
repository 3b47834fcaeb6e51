/- A part of the proof: trees of Go values, short forms, contracts. -/
import Derived.Test.YtomoecbcgacncaaGreatDoorK19
namespace Go.Proofs
open Go Go.TL
set_option maxRecDepth 4000
set_option maxHeartbeats 8000000
open So
theorem yr {st:Sto} {B:List Nat} {i1:Nat} {f0:FuncId} (n:Nat) (ts:List T) (h:imAL ts=true):ltAs st [uI 0,(1,some i1)] B (.asl 0 n::(ts++[.ptr i1 1 0 0,.clo f0 []])) (.asl 0 n::(ts++[.ptr 1 1 0 0,.clo f0 []])):=by
 refine⟨by simp [ltA,ltC,ltC0,TL.get],?_⟩
 induction ts with
 | nil=>exact⟨by simp [ltA,ltC,ltC0,TL.get],yB rfl⟩
 | cons t ts ih=>
   simp only[imAL,Bq] at h;exact⟨Zq h.1,ih h.2⟩
section
variable (cV:Rw→Rw→Int) (fV:FuncId) (hV:∀ x y:Rw,Sp fV [rwT x,rwT y] [] (vI (cV x y)) [])
def Kn (xs:List Rw) (q:Nat×Nat×Nat):Nat×Nat×Nat:=if (ltR cV) (gd xs q.2.1) (gd xs q.1)=true then (q.2.1,q.1,q.2.2+1) else q
include hV in
theorem ja (xs:List Rw) (a b c:Nat) (ha:a<xs.length) (hb:b<xs.length) (hc:c<1000) :
 Sp 113 [.asl 0 xs.length,vI a,vI b,.ptr 1 1 0 0,.clo fV []] [aR 0 1 (xs.map rwT),aR 1 1 [vI c]] (.tup [vI (Kn cV xs (a,b,c)).1,vI (Kn cV xs (a,b,c)).2.1]) [aR 0 1 (xs.map rwT),aR 1 1 [vI (Kn cV xs (a,b,c)).2.2]]:=by
 have hwc:=qg (i:=c) oM;refine sIr yk fun e _ hst=>?_;unfold zH;simp only[tZ,↓uU,simprocAttr,Ax,qz ha,qz hb,qQ];refine⟨oM,oM,oM,oM,?_⟩;refine C1.im (hV (gd xs b) (gd xs a)) rF rF ?_;simp only[tZ,↓uU,simprocAttr,hwc];refine⟨kR,fun h=>?_,fun h=>?_⟩
 ·simp only[Kn,Aj h];exact .oA (U2 0 1) []
 ·simp only[Kn,h];exact .oA (U2 0 1) []
theorem qe8 (xs:List Rw) {a b c n:Nat} (ha:a<n) (hb:b<n):(Kn cV xs (a,b,c)).1<n∧(Kn cV xs (a,b,c)).2.1<n∧(Kn cV xs (a,b,c)).2.2≤c+1:=by
 unfold Kn;split
 ·exact⟨hb,ha,BZ _⟩
 ·exact⟨ha,hb,Nat.le_succ _⟩
theorem qs4 (xs:List Rw) {a b c n:Nat} (ha:n≤a) (hb:n≤b):n≤(Kn cV xs (a,b,c)).1∧n≤(Kn cV xs (a,b,c)).2.1:=by
 unfold Kn;split
 ·exact⟨hb,ha⟩
 ·exact⟨ha,hb⟩
include hV in
theorem jb (xs:List Rw) (a b c n lo hi:Nat) (hh:hi≤xs.length) (ha:a<hi) (hb:b<hi) (hc:c<hi) (la:lo≤a) (lb:lo≤b) (lc:lo≤c) (hn:n<900) :
 ∃ m k:Nat,(m<hi∧lo≤m∧k≤n+3)∧Sp 104 [.asl 0 xs.length,vI a,vI b,vI c,.ptr 1 1 0 0,.clo fV []] [aR 0 1 (xs.map rwT),aR 1 1 [vI n]] (vI m) [aR 0 1 (xs.map rwT),aR 1 1 [vI k]]:=by
 have s1:=ja cV fV hV xs a b n oM oM oM;obtain⟨u1,u2,u3⟩:=qe8 cV xs (c:=n) ha hb;obtain⟨l1,l2⟩:=qs4 cV xs (c:=n) la lb;generalize Kn cV xs (a,b,n)=p at *
 obtain⟨a1,b1,n1⟩:=p;dsimp only at u1 u2 u3 l1 l2 s1;have s2:=ja cV fV hV xs b1 c n1 oM oM oM;obtain⟨v1,v2,v3⟩:=qe8 cV xs (c:=n1) u2 hc;obtain⟨k1,k2⟩:=qs4 cV xs (c:=n1) l2 lc;generalize Kn cV xs (b1,c,n1)=p at *
 obtain⟨b2,c2,n2⟩:=p;dsimp only at v1 v2 v3 k1 k2 s2;have s3:=ja cV fV hV xs a1 b2 n2 oM oM oM;obtain⟨w1,w2,w3⟩:=qe8 cV xs (c:=n2) u1 v1;obtain⟨j1,j2⟩:=qs4 cV xs (c:=n2) l1 k1;generalize Kn cV xs (a1,b2,n2)=p at *
 obtain⟨a3,b3,n3⟩:=p;dsimp only at w1 w2 w3 j1 j2 s3;refine⟨b3,n3,⟨w2,j2,oM⟩,?_⟩;refine sIr yi fun e _ hst=>?_;unfold zG;refine sW ?_;refine C1.upd2 1 1 1 _ _ _ _ s1 rfl rfl sMp (by apply qh;intro _;exact⟨rfl,rfl⟩) (by apply qh;intro _;exact⟨rfl,rfl⟩) (qE ⟨rfl,rfl⟩ qK) (qE ⟨rfl,rfl⟩ qK) (yr _ [vI a,vI b] rF) rF ?_;refine sW ?_;refine C1.upd2 1 1 1 _ _ _ _ s2 rfl rfl sMp (by apply qh;intro _;exact⟨rfl,rfl⟩) (by apply qh;intro _;exact⟨rfl,rfl⟩) (qE ⟨rfl,rfl⟩ qK) (qE ⟨rfl,rfl⟩ qK) (yr _ [vI b1,vI c] rF) rF ?_;refine sW ?_;refine C1.upd2 1 1 1 _ _ _ _ s3 rfl rfl sMp (by apply qh;intro _;exact⟨rfl,rfl⟩) (by apply qh;intro _;exact⟨rfl,rfl⟩) (qE ⟨rfl,rfl⟩ qK) (qE ⟨rfl,rfl⟩ qK) (yr _ [vI a1,vI b2] rF) rF ?_;refine sW ?_;exact .oA (U2 0 1) []
include hV in
theorem zn (xs:List Rw) (a n lo hi:Nat) (hh:hi≤xs.length) (ha:a+1<hi) (la:lo<a) (hn:n<900) (hl:xs.length<2305843009213693952) :
 ∃ m k:Nat,(m<hi∧lo≤m∧k≤n+3)∧Sp 103 [.asl 0 xs.length,vI a,.ptr 1 1 0 0,.clo fV []] [aR 0 1 (xs.map rwT),aR 1 1 [vI n]] (vI m) [aR 0 1 (xs.map rwT),aR 1 1 [vI k]]:=by
 obtain⟨m,k,hm,hs⟩:=jb cV fV hV xs (a-1) a (a+1) n lo hi hh oM oM ha oM oM oM hn;refine⟨m,k,hm,?_⟩;have hwa:=qg (i:=a) oM;have hwp:IntKind.i64.wrap ((a:Int)-1)=((a-1:Nat):Int):=by rw[AK _ oM];omega
 refine sIr jW fun e _ hst=>?_;unfold zf;simp only[tZ,↓uU,simprocAttr,hwa,hwp];refine C1.upd2 1 1 1 _ _ _ _ hs rfl rfl sMp (by apply qh;intro _;exact⟨rfl,rfl⟩) (by apply qh;intro _;exact⟨rfl,rfl⟩) (qE ⟨rfl,rfl⟩ qK) (qE ⟨rfl,rfl⟩ qK) (yr _ [vI (a-1:Nat),vI a,vI (a+1:Nat)] rF) rF ?_;refine sW ?_;exact .oA (U2 0 1) []
include hV in
theorem zx (xs:List Rw) (a b:Nat) (hab:a+12<b) (hb:b≤xs.length) (hl:xs.length<2305843009213693952) :
 ∃ q:Nat×Int,(a≤q.1∧q.1<b)∧Sp 75 [.asl 0 xs.length,vI a,vI b,.clo fV []] [aR 0 1 (xs.map rwT)] (.tup [vI q.1,vI q.2]) [aR 0 1 (xs.map rwT)]:=by
 have hw1:IntKind.i64.wrap ((b:Int)-a)=((b-a:Nat):Int):=by rw[AK _ oM];omega
 have hw2:IntKind.i64.wrap (((b-a:Nat):Int).tdiv 4)=(((b-a) / 4:Nat):Int):=by rw[Int.tdiv_eq_ediv_of_nonneg oM,AK _ oM];omega
 have he1:IntKind.i64.wrap ((((b-a) / 4:Nat):Int)*1)=(((b-a) / 4:Nat):Int):=by rw[AK _ oM];omega
 have he2:IntKind.i64.wrap ((((b-a) / 4:Nat):Int)*2)=((2*((b-a) / 4):Nat):Int):=by rw[AK _ oM];omega
 have he3:IntKind.i64.wrap ((((b-a) / 4:Nat):Int)*3)=((3*((b-a) / 4):Nat):Int):=by rw[AK _ oM];omega
 have ha1:IntKind.i64.wrap ((a:Int)+(((b-a) / 4:Nat):Int))=((a+(b-a) / 4:Nat):Int):=by rw[AK _ oM];omega
 have ha2:IntKind.i64.wrap ((a:Int)+((2*((b-a) / 4):Nat):Int))=((a+2*((b-a) / 4):Nat):Int):=by rw[AK _ oM];omega
 have ha3:IntKind.i64.wrap ((a:Int)+((3*((b-a) / 4):Nat):Int))=((a+3*((b-a) / 4):Nat):Int):=by rw[AK _ oM];omega
 have h8:decide (((b-a:Nat):Int)≥8)=true:=Cx oM;have g1:a≤a+(b-a) / 4∧a+(b-a) / 4<b:=by omega
 have g2:a≤a+2*((b-a) / 4)∧a+2*((b-a) / 4)<b:=by omega
 have g3:a≤a+3*((b-a) / 4)∧a+3*((b-a) / 4)<b:=by omega
 have g4:50≤b-a→a<a+(b-a) / 4∧a+(b-a) / 4+1<b∧a<a+2*((b-a) / 4)∧a+2*((b-a) / 4)+1<b∧a<a+3*((b-a) / 4)∧a+3*((b-a) / 4)+1<b:=by omega
 generalize a+(b-a) / 4=p1 at *
 generalize a+2*((b-a) / 4)=p2 at *
 generalize a+3*((b-a) / 4)=p3 at *
 by_cases h50:50≤b-a
 ·have d50:decide (((b-a:Nat):Int)≥50)=true:=Cx oM;obtain⟨q1,q2,q3,q4,q5,q6⟩:=g4 h50;obtain⟨m1,n1,⟨r1,r2,r3⟩,s1⟩:=zn cV fV hV xs p1 0 a b hb q2 q1 oM hl;obtain⟨m2,n2,⟨r4,r5,r6⟩,s2⟩:=zn cV fV hV xs p2 n1 a b hb q4 q3 oM hl;obtain⟨m3,n3,⟨r7,r8,r9⟩,s3⟩:=zn cV fV hV xs p3 n2 a b hb q6 q5 oM hl;obtain⟨m,n,⟨t1,t2,t3⟩,s4⟩:=jb cV fV hV xs m1 m2 m3 n3 a b hb r1 r4 r7 r2 r5 r8 oM;refine⟨(m,if n=0 then 1 else if n=12 then 2 else 0),⟨t2,t1⟩,?_⟩;refine sIr zY fun e _ hst=>?_;unfold qX;simp only[tZ,↓uU,simprocAttr,hw1,hw2,he1,he2,he3,ha1,ha2,ha3,h8,d50];refine C1.upd2 12288 1 1 _ _ _ _ s1 rfl rfl sMp (by apply qh;intro _;exact⟨rfl,rfl⟩) (by apply qh;intro _;exact⟨rfl,rfl⟩) (qE ⟨rfl,rfl⟩ qK) (qE ⟨rfl,rfl⟩ qK) (yr _ [vI p1] rF) rF ?_;refine sW ?_;refine C1.upd2 12288 1 1 _ _ _ _ s2 rfl rfl sMp (by apply qh;intro _;exact⟨rfl,rfl⟩) (by apply qh;intro _;exact⟨rfl,rfl⟩) (qE ⟨rfl,rfl⟩ qK) (qE ⟨rfl,rfl⟩ qK) (yr _ [vI p2] rF) rF ?_;refine sW ?_;refine C1.upd2 12288 1 1 _ _ _ _ s3 rfl rfl sMp (by apply qh;intro _;exact⟨rfl,rfl⟩) (by apply qh;intro _;exact⟨rfl,rfl⟩) (qE ⟨rfl,rfl⟩ qK) (qE ⟨rfl,rfl⟩ qK) (yr _ [vI p3] rF) rF ?_;refine sW ?_;refine C1.upd2 12288 1 1 _ _ _ _ s4 rfl rfl sMp (by apply qh;intro _;exact⟨rfl,rfl⟩) (by apply qh;intro _;exact⟨rfl,rfl⟩) (qE ⟨rfl,rfl⟩ qK) (qE ⟨rfl,rfl⟩ qK) (yr _ [vI m1,vI m2,vI m3] rF) rF ?_;refine sW ?_;refine⟨fun h=>?_,fun h=>?_⟩
  ·rw[Aj (by have:=AY.1 h;omega)];exact .oA (U1 0) []
  ·have hn0:¬ n=0:=by have:=Ak.1 h;omega
   rw[Aq hn0];refine⟨fun h=>?_,fun h=>?_⟩
   ·rw[Aj (by have:=AY.1 h;omega)];exact .oA (U1 0) []
   ·rw[Aq (by have:=Ak.1 h;omega)];exact .oA (U1 0) []
 ·have d50:decide (((b-a:Nat):Int)≥50)=false:=Cq oM;obtain⟨m,n,⟨t1,t2,t3⟩,s4⟩:=jb cV fV hV xs p1 p2 p3 0 a b hb g1.2 g2.2 g3.2 g1.1 g2.1 g3.1 oM;refine⟨(m,if n=0 then 1 else if n=12 then 2 else 0),⟨t2,t1⟩,?_⟩;refine sIr zY fun e _ hst=>?_;unfold qX;simp only[tZ,↓uU,simprocAttr,hw1,hw2,he1,he2,he3,ha1,ha2,ha3,h8,d50];refine C1.upd2 12288 1 1 _ _ _ _ s4 rfl rfl sMp (by apply qh;intro _;exact⟨rfl,rfl⟩) (by apply qh;intro _;exact⟨rfl,rfl⟩) (qE ⟨rfl,rfl⟩ qK) (qE ⟨rfl,rfl⟩ qK) (yr _ [vI p1,vI p2,vI p3] rF) rF ?_;refine sW ?_;refine⟨fun h=>?_,fun h=>?_⟩
  ·rw[Aj (by have:=AY.1 h;omega)];exact .oA (U1 0) []
  ·have hn0:¬ n=0:=by have:=Ak.1 h;omega
   rw[Aq hn0];refine⟨fun h=>?_,fun h=>?_⟩
   ·rw[Aj (by have:=AY.1 h;omega)];exact .oA (U1 0) []
   ·rw[Aq (by have:=Ak.1 h;omega)];exact .oA (U1 0) []
theorem qZ (xs:List Rw) (a b:Nat) (hab:a≤b) (hb:b≤xs.length) (hl:xs.length<65536) :
 ∃ ys,Sw a b xs ys∧Sp 74 [.asl 0 xs.length,vI a,vI b,.clo fV []] [aR 0 1 (xs.map rwT)] (.tup []) [aR 0 1 (ys.map rwT)]:=by
 have hw1:IntKind.i64.wrap ((b:Int)-a)=((b-a:Nat):Int):=by rw[AK _ oM];omega
 by_cases h8:8≤b-a
 ·obtain⟨p,⟨p1,p2⟩,hp⟩:=Zo (b-a) oM oM;refine⟨bk a (b-a) p 3 (a+2*((b-a) / 4)-1) ((b-a:Nat):Int) xs,zS8 p1 p2 oM 3 _ _ xs oM oM hb,?_⟩;have d8:decide (((b-a:Nat):Int)≥8)=true:=Cx oM;have hu:IntKind.u64.wrap ((b-a:Nat):Int)=((b-a:Nat):Int):=by rw[IntKind.wrap_u64];omega
  have hw2:IntKind.i64.wrap (((b-a:Nat):Int).tdiv 4)=(((b-a) / 4:Nat):Int):=by rw[Int.tdiv_eq_ediv_of_nonneg oM,AK _ oM];omega
  have he2:IntKind.i64.wrap ((((b-a) / 4:Nat):Int)*2)=((2*((b-a) / 4):Nat):Int):=by rw[AK _ oM];omega
  have ha2:IntKind.i64.wrap ((a:Int)+((2*((b-a) / 4):Nat):Int))=((a+2*((b-a) / 4):Nat):Int):=by rw[AK _ oM];omega
  have ha3:IntKind.i64.wrap (((a+2*((b-a) / 4):Nat):Int)-1)=((a+2*((b-a) / 4)-1:Nat):Int):=by rw[AK _ oM];omega
  have ha4:IntKind.i64.wrap (((a+2*((b-a) / 4):Nat):Int)+1)=((a+2*((b-a) / 4)+1:Nat):Int):=qg oM;have hp1:IntKind.u64.wrap ((p:Int)-1)=(p:Int)-1:=by rw[IntKind.wrap_u64];omega
  have hj:a≤a+2*((b-a) / 4)-1∧a+2*((b-a) / 4)+1<b∧0<a+2*((b-a) / 4):=by omega
  refine sIr zR fun e _ hst=>?_;unfold qS;simp only[tZ,↓uU,simprocAttr,hw1,d8,hu];refine C1.im hp rF rF ?_;simp only[tZ,↓uU,simprocAttr,hw2,he2,ha2,ha3];generalize a+2*((b-a) / 4)=z at *
  refine qy mixm (α:=List Rw×Nat×Int×Nat) [11] (fun q=>q.1.length=xs.length∧q.2.1+q.2.2.2=z+2∧q.2.2.2≤3∧bk a (b-a) p q.2.2.2 q.2.1 q.2.2.1 q.1=bk a (b-a) p 3 (z-1) ((b-a:Nat):Int) xs) (fun q=>[(11,vI q.2.1)]) (fun q=>[aR 0 1 (q.1.map rwT),aR 12296 1 [vU64 q.2.2.1]]) (fun q=>q.2.2.2) (xs,z-1,((b-a:Nat):Int),3) ⟨rfl,by dsimp only;omega,BZ _,rfl⟩ ?_ fun q hq=>?_
  ·exact .oA (U2 0 12296) []
  obtain⟨ys,i,v,f⟩:=q;obtain⟨g1,g2,g3,g4⟩:=hq;dsimp only at g1 g2 g3 g4;simp only[tZ,↓uU,simprocAttr,AZ,Ay,hw2,he2,ha2,ha4];refine⟨fun h5=>?_,fun h5=>?_⟩
  ·obtain⟨f,rfl⟩:∃ k,f=k+1:=⟨f-1,oM⟩;rw[bk] at g4;have ho:=zH7 p1 p2 oM (rnd v);have hox:=Eq.refl (oth (b-a) p (rnd v));have han:=zH6 (rnd v) (m:=(p:Int)-1) oM oM;obtain⟨w,hwd⟩:∃ w:Nat,andI .u64 (rnd v) ((p:Int)-1)=(w:Int):=⟨_,(Int.toNat_of_nonneg han.1).symm⟩;rw[hwd] at han;rw[show oth (b-a) p (rnd v)=if b-a≤w then w-(b-a) else w by unfold oth;rw[hwd,Ax]] at hox ho g4;have hwv:IntKind.i64.wrap (w:Int)=(w:Int):=AK _ oM;have hwi:=qg (i:=i) oM;refine C1.upd 12296 1 _ _ (show Spc _ _ _ _ (vU64 (rnd v)) [aR 0 1 [vU64 (rnd v)]] from Zz v) rF (qE ⟨rfl,rfl⟩ qK) (qE ⟨rfl,rfl⟩ qK) ⟨by simp [ltA,ltC,ltC0,TL.get],trivial⟩ rF ?_;have key:∀ o:Nat,o<b-a→IntKind.i64.wrap ((a:Int)+(o:Int))=((a+o:Nat):Int):=fun o h=>by rw[AK _ oM];omega
   simp only[tZ,↓uU,simprocAttr,AZ,Ay,hp1,hwd,hwv];refine⟨fun h6=>?_,fun h6=>?_⟩
   ·rw[Aj oM] at ho g4;have hws:IntKind.i64.wrap ((w:Int)-((b-a:Nat):Int))=((w-(b-a):Nat):Int):=by rw[AK _ oM];omega
    have hao:=key _ ho;generalize w-(b-a)=o at *
    have hss:(ys.set i (gd ys (a+o))).length=ys.length:=Fw;have hul:=qO ys i (a+o);simp only[tZ,↓uU,simprocAttr,hws,hao,hwi,Ax,qz (show i<ys.length by omega),qz (show a+o<ys.length by omega),zS,qQ,jw,qz (show a+o<(ys.set i (gd ys (a+o))).length by omega),jx];refine⟨oM,oM,oM,oM,oM,oM,oM,oM,kR,(swp ys i (a+o),i+1,rnd v,f),⟨by dsimp only;omega,by dsimp only;omega,by dsimp only;omega,g4⟩,by dsimp only;omega,?_⟩;exact .oA (U2 0 12296) []
   ·rw[Aq oM] at ho g4;have hao:=key _ ho;have hss:(ys.set i (gd ys (a+w))).length=ys.length:=Fw;have hul:=qO ys i (a+w);simp only[tZ,↓uU,simprocAttr,hao,hwi,Ax,qz (show i<ys.length by omega),qz (show a+w<ys.length by omega),zS,qQ,jw,qz (show a+w<(ys.set i (gd ys (a+w))).length by omega),jx];refine⟨oM,oM,oM,oM,oM,oM,oM,oM,kR,(swp ys i (a+w),i+1,rnd v,f),⟨by dsimp only;omega,by dsimp only;omega,by dsimp only;omega,g4⟩,by dsimp only;omega,?_⟩;exact .oA (U2 0 12296) []
  ·obtain rfl:f=0:=by omega
   rw[bk] at g4;rw[← g4];exact .oA (U1 0) []
 ·refine⟨xs,.refl xs,?_⟩;have d8:decide (((b-a:Nat):Int)≥8)=false:=Cq oM;refine sIr zR fun e _ hst=>?_;unfold qS;simp only[tZ,↓uU,simprocAttr,hw1,d8];exact .oA (U1 0) []
end
section
variable (cV:Rw→Rw→Int) (fV:FuncId) (hV:∀ x y:Rw,Sp fV [rwT x,rwT y] [] (vI (cV x y)) [])
noncomputable def ZB (xs:List Rw) (a b:Nat):Nat×Int:=
 open Classical in if h:a+12<b∧b≤xs.length∧xs.length<65536 then Classical.choose (zx cV fV hV xs a b h.1 h.2.1 oM) else (a,0)
noncomputable def Jj (xs:List Rw) (a b:Nat):List Rw:=
 open Classical in if h:a≤b∧b≤xs.length∧xs.length<65536 then Classical.choose (qZ fV xs a b h.1 h.2.1 h.2.2) else xs
include hV in
theorem qU5 (xs:List Rw) (a b:Nat) (h1:a+12<b) (h2:b≤xs.length):a≤((ZB cV fV hV) xs a b).1∧((ZB cV fV hV) xs a b).1<b:=by
 unfold ZB;split
 ·rename_i h;exact (Classical.choose_spec (zx cV fV hV xs a b h.1 h.2.1 oM)).1
 ·exact⟨BZ _,by show a<b;omega⟩
theorem zA7 (xs:List Rw) (a b:Nat) (h1:a≤b) (h2:b≤xs.length):Sw a b xs ((Jj fV) xs a b):=by
 unfold Jj;split
 ·rename_i h;exact (Classical.choose_spec (qZ fV xs a b h.1 h.2.1 h.2.2)).1
 ·exact .refl xs
theorem qD6 (xs:List Rw) (a b:Nat):((Jj fV) xs a b).length=xs.length:=by
 unfold Jj;split
 ·rename_i h;exact (Classical.choose_spec (qZ fV xs a b h.1 h.2.1 h.2.2)).1.len
 ·rfl
include hV in
theorem zM8 (xs:List Rw) (a b:Nat) (h1:a+12<b) (h2:b≤xs.length) (h3:xs.length<65536) :
 Sp 75 [.asl 0 xs.length,vI a,vI b,.clo fV []] [aR 0 1 (xs.map rwT)] (.tup [vI ((ZB cV fV hV) xs a b).1,vI ((ZB cV fV hV) xs a b).2]) [aR 0 1 (xs.map rwT)]:=by
 unfold ZB;rw[dif_pos ⟨h1,h2,h3⟩];exact (Classical.choose_spec (zx cV fV hV xs a b h1 h2 oM)).2
theorem zM9 (xs:List Rw) (a b:Nat) (h1:a≤b) (h2:b≤xs.length) (h3:xs.length<65536) :
 Sp 74 [.asl 0 xs.length,vI a,vI b,.clo fV []] [aR 0 1 (xs.map rwT)] (.tup []) [aR 0 1 (((Jj fV) xs a b).map rwT)]:=by
 unfold Jj;rw[dif_pos ⟨h1,h2,h3⟩];exact (Classical.choose_spec (qZ fV xs a b h1 h2 h3)).2
variable (ho:SWOrd (ltR cV))
include hV ho in
theorem Qb:∀ (F:Nat) (xs:List Rw) (a b lim:Nat),a≤b→b≤xs.length→xs.length<65536→b<a+F→lim<1000→
 Sp 50 [.asl 0 xs.length,vI a,vI b,vI lim,.clo fV []] [aR 0 1 (xs.map rwT)] (.tup []) [aR 0 1 ((pdq (ltR cV) (ZB cV fV hV) (Jj fV) F xs a b lim true true).map rwT)]:=by
 intro F
 induction F using Nat.strongRecOn with
 | ind F ih=>
 intro xs a b lim hab hb hl hf hlim;refine jj [10,15,17] jo mixm sMp fun e _ hst=>QR ?_;unfold zg;simp only[yA,List.contains_cons,List.contains_nil,Nat.reduceBEq,Bool.or_false,Bool.or_true,Bool.true_or,Bool.false_or,cond_true,cond_false];refine sW ?_;generalize hR:pdq (ltR cV) (ZB cV fV hV) (Jj fV) F xs a b lim true true=R;refine qy mixm (α:=List Rw×Nat×Nat×Nat×Bool×Bool×Nat) [1,2,3,10,11] (fun q=>q.1.length=xs.length∧q.2.1≤q.2.2.1∧q.2.2.1≤xs.length∧q.2.2.1<q.2.1+q.2.2.2.2.2.2∧q.2.2.2.2.2.2≤F∧q.2.2.2.1<1000∧pdq (ltR cV) (ZB cV fV hV) (Jj fV) q.2.2.2.2.2.2 q.1 q.2.1 q.2.2.1 q.2.2.2.1 q.2.2.2.2.1 q.2.2.2.2.2.1=R)
  (fun q=>[(1,vI q.2.1),(2,vI q.2.2.1),(3,vI q.2.2.2.1),(10,vB q.2.2.2.2.1),(11,vB q.2.2.2.2.2.1)]) (fun q=>[aR 0 1 (q.1.map rwT)]) (fun q=>q.2.2.2.2.2.2) (xs,a,b,lim,true,true,F) ⟨rfl,hab,hb,hf,BZ _,hlim,hR⟩ ?_ fun q hq=>?_
 ·exact .oA (U1 0) []
 clear hR hf hlim;obtain⟨ys,a,b,lim,wb,wp,g⟩:=q;obtain⟨h1,h2,h3,h4,h5,h6,h7⟩:=hq;dsimp only at h1 h2 h3 h4 h5 h6 h7;dsimp only;obtain⟨g,rfl⟩:∃ k,g=k+1:=⟨g-1,oM⟩;have hw1:IntKind.i64.wrap ((b:Int)-a)=((b-a:Nat):Int):=by rw[AK _ oM];omega
 rw[pdq] at h7;simp only[tZ,↓uU,simprocAttr,AZ,Ay,hw1];refine⟨fun h8=>?_,fun h8=>?_⟩
 ·rw[Aj oM] at h7;refine C1.upd 0 1 _ _ (wc cV fV hV ys a b h2 oM oM) rF (by apply qh;intro _;exact⟨rfl,rfl⟩) (by apply qh;intro _;exact⟨rfl,rfl⟩) (by rw[h1];exact kX _ _ rF) rF ?_;refine sW ?_;rw[← h7];exact .oA (U1 0) []
 rw[Aq oM] at h7;refine⟨fun h9=>?_,fun h9=>?_⟩
 ·have h9:=AY.1 h9;rw[Aj oM] at h7;refine C1.upd 0 1 _ _ (yT cV fV hV ys a b oM oM oM) rF (by apply qh;intro _;exact⟨rfl,rfl⟩) (by apply qh;intro _;exact⟨rfl,rfl⟩) (by rw[h1];exact kX _ _ rF) rF ?_;refine sW ?_;rw[← h7];exact .oA (U1 0) []
 have h9:=Ak.1 h9;rw[Aq oM] at h7;obtain⟨x,l2,hx,hl2,h10⟩:∃ (x:List Rw) (l2:Nat),(x=if wb=true then ys else (Jj fV) ys a b)∧(l2=if wb=true then lim else lim-1)∧pdqP (ltR cV) (ZB cV fV hV) (pdq (ltR cV) (ZB cV fV hV) (Jj fV) g) x a b l2 wb wp=R:=by
  refine⟨_,_,rfl,rfl,?_⟩;rw[← h7];cases wb <;> rfl
 clear h7;have hll:IntKind.i64.wrap ((lim:Int)-1)=((lim-1:Nat):Int):=by rw[AK _ oM];omega
 have hxl:x.length=xs.length:=by
  rw[hx];split
  ·exact h1
  ·rw[(qD6 fV)];exact h1
 have hl3:l2<1000:=by rw[hl2];split <;> omega
 have cbr:=zM9 fV ys a b h2 oM oM;apply mid
 ·intro key;refine⟨fun h=>?_,fun h=>?_⟩
  ·have hx':x=(Jj fV) ys a b:=by rw[hx,h];rfl
   have hl':l2=lim-1:=by rw[hl2,h];rfl
   refine C1.upd 0 1 _ _ cbr rF (by apply qh;intro _;exact⟨rfl,rfl⟩) (by apply qh;intro _;exact⟨rfl,rfl⟩) (by rw[h1];exact kX _ _ rF) rF ?_;simp only[tZ,↓uU,simprocAttr,hll];refine W_le [(0,.asl 0 xs.length),(1,vI a),(2,vI b),(3,vI l2),(4,.clo fV []),(10,vB wb),(11,vB wp),(12,vI (b-a:Nat))] [aR 0 1 (x.map rwT)] ?_ key;rw[hx',hl'];exact .oA (U1 0) []
  ·rw[Bz] at h;have hx':x=ys:=by rw[hx,h];rfl
   have hl':l2=lim:=by rw[hl2,h];rfl
   refine W_le [(0,.asl 0 xs.length),(1,vI a),(2,vI b),(3,vI l2),(4,.clo fV []),(10,vB wb),(11,vB wp),(12,vI (b-a:Nat))] [aR 0 1 (x.map rwT)] ?_ key;rw[hx',hl'];exact .oA (U1 0) []
 clear hx hl2 hll h9 h1;have hcp:=(qU5 cV fV hV) x a b oM oM;have hcc:=zM8 cV fV hV x a b oM oM oM;rw[pdqP] at h10;generalize (ZB cV fV hV) x a b=cq at *
 obtain⟨p0,h0⟩:=cq;dsimp only at hcp hcc h10;have hwb1:IntKind.i64.wrap ((b:Int)-1)=((b-1:Nat):Int):=by rw[AK _ oM];omega
 have hwpa:IntKind.i64.wrap ((p0:Int)-(a:Int))=((p0-a:Nat):Int):=by rw[AK _ oM];omega
 have hwpb:IntKind.i64.wrap (((b-1:Nat):Int)-((p0-a:Nat):Int))=((b-1-(p0-a):Nat):Int):=by rw[AK _ oM];omega
 obtain⟨y,pv,hint,hy,hpv,hhint,h11⟩:∃ (y:List Rw) (pv:Nat) (hint:Int),(y=if h0=2 then rvs (b-a) a (b-1) x else x)∧(pv=if h0=2 then b-1-(p0-a) else p0)∧(hint=if h0=2 then 1 else h0)∧pdqH (ltR cV) (pdq (ltR cV) (ZB cV fV hV) (Jj fV) g) y a b pv hint l2 wb wp=R:=by
  refine⟨_,_,_,rfl,rfl,rfl,?_⟩;rw[← h10];by_cases e:h0=2
  ·rw[Aj e,Aj e,Aj e,Aj e]
  ·rw[Aq e,Aq e,Aq e,Aq e]
 clear h10;have hyl:y.length=xs.length:=by
  rw[hy];split
  ·rw[qH2];exact hxl
  ·exact hxl
 have hpr:a≤pv∧pv<b:=by
  rw[hpv];split <;> omega
 have crv:=ww fV x a b oM oM oM;apply mid
 ·intro key;refine sW ?_;refine C1.upd 0 1 _ _ hcc rF (by apply qh;intro _;exact⟨rfl,rfl⟩) (by apply qh;intro _;exact⟨rfl,rfl⟩) (by rw[hxl];exact kX _ _ rF) rF ?_;refine sW ?_;refine⟨fun h=>?_,fun h=>?_⟩
  ·have h:=AY.1 h;have hy':y=rvs (b-a) a (b-1) x:=by rw[hy,Aj h]
   have hp':pv=b-1-(p0-a):=by rw[hpv,Aj h]
   have hh':hint=1:=by rw[hhint,Aj h]
   refine C1.upd 0 1 _ _ crv rF (by apply qh;intro _;exact⟨rfl,rfl⟩) (by apply qh;intro _;exact⟨rfl,rfl⟩) (by rw[hxl];exact kX _ _ rF) rF ?_;simp only[tZ,↓uU,simprocAttr,hwb1,hwpa,hwpb];refine W_le [(0,.asl 0 xs.length),(1,vI a),(2,vI b),(3,vI l2),(4,.clo fV []),(10,vB wb),(11,vB wp),(12,vI (b-a:Nat)),(13,vI pv),(14,vI hint)] [aR 0 1 (y.map rwT)] ?_ key;rw[hy',hp',hh'];exact .oA (U1 0) []
  ·have h:=Ak.1 h;have hy':y=x:=by rw[hy,Aq h]
   have hp':pv=p0:=by rw[hpv,Aq h]
   have hh':hint=h0:=by rw[hhint,Aq h]
   refine W_le [(0,.asl 0 xs.length),(1,vI a),(2,vI b),(3,vI l2),(4,.clo fV []),(10,vB wb),(11,vB wp),(12,vI (b-a:Nat)),(13,vI pv),(14,vI hint)] [aR 0 1 (y.map rwT)] ?_ key;rw[hy',hp',hh'];exact .oA (U1 0) []
 clear hy hpv hhint hcp hcc hwpa hwpb hxl;rw[pdqH] at h11;have cpn:=jK cV fV hV y a b oM oM oM;have hband:(wb&&wp&&(hint==1))=true↔(wb=true∧wp=true∧hint=1):=by simp [and_assoc]
 by_cases hc:(wb=true∧wp=true∧hint=1)∧(pins (ltR cV) a b 5 (a+1) y).2=true
 ·rw[Aj hc.1,Aj hc.2] at h11;have hcb:=hband.2 hc.1;simp only[tZ,↓uU,simprocAttr,hcb];refine C1.upd 0 1 _ _ cpn rF (by apply qh;intro _;exact⟨rfl,rfl⟩) (by apply qh;intro _;exact⟨rfl,rfl⟩) (by rw[hyl];exact kX _ _ rF) rF ?_;rw[hc.2,h11];refine sW ?_;exact .oA (U1 0) []
 obtain⟨z,hz,h12⟩:∃ z:List Rw,(z=if wb=true∧wp=true∧hint=1 then (pins (ltR cV) a b 5 (a+1) y).1 else y)∧pdqG (ltR cV) (pdq (ltR cV) (ZB cV fV hV) (Jj fV) g) z a b pv l2 wb wp=R:=by
  refine⟨_,rfl,?_⟩;by_cases e:wb=true∧wp=true∧hint=1
  ·rw[Aj e,Aq (fun e2=>hc ⟨e,e2⟩)] at h11;rw[Aj e];exact h11
  ·rw[Aq e] at h11;rw[Aq e];exact h11
 have hzl:z.length=xs.length:=by
  rw[hz];split
  ·rw[Ys];exact hyl
  ·exact hyl
 clear h11;apply mid
 ·intro key;refine sW ?_;refine⟨fun h=>?_,fun h=>?_⟩
  ·have e:=hband.1 h;have hpf:(pins (ltR cV) a b 5 (a+1) y).2=false:=by
    cases e2:(pins (ltR cV) a b 5 (a+1) y).2 with
    | false=>rfl
    | true=>exact absurd ⟨e,e2⟩ hc
   have hz':z=(pins (ltR cV) a b 5 (a+1) y).1:=by rw[hz,Aj e]
   refine C1.upd 0 1 _ _ cpn rF (by apply qh;intro _;exact⟨rfl,rfl⟩) (by apply qh;intro _;exact⟨rfl,rfl⟩) (by rw[hyl];exact kX _ _ rF) rF ?_;rw[hpf];refine sW ?_;refine W_le [(0,.asl 0 xs.length),(1,vI a),(2,vI b),(3,vI l2),(4,.clo fV []),(10,vB wb),(11,vB wp),(12,vI (b-a:Nat)),(13,vI pv)] [aR 0 1 (z.map rwT)] ?_ key;rw[hz'];exact .oA (U1 0) []
  ·have hz':z=y:=by rw[hz,Aq (fun e=>by rw[hband.2 e] at h;cases h)]
   refine W_le [(0,.asl 0 xs.length),(1,vI a),(2,vI b),(3,vI l2),(4,.clo fV []),(10,vB wb),(11,vB wp),(12,vI (b-a:Nat)),(13,vI pv)] [aR 0 1 (z.map rwT)] ?_ key;rw[hz'];exact .oA (U1 0) []
 clear hz hc cpn hyl hband;rw[pdqG] at h12;have hwa1:0<a→IntKind.i64.wrap ((a:Int)-1)=((a-1:Nat):Int):=fun h=>by rw[AK _ oM];omega
 simp only[tZ,↓uU,simprocAttr,Ax,qz (show pv<z.length by omega),qQ];refine⟨fun h=>by have:=of_decide_eq_true h;rw[hwa1 oM];omega,fun h=>by have:=of_decide_eq_true h;rw[hwa1 oM];omega,fun h=>by omega,fun h=>by omega,?_⟩;refine C2.im (r:=vI (cV (gd z (a-1)) (gd z pv))) (fun h=>by have:=of_decide_eq_true h;rw[hwa1 oM,Ax,qz (show a-1<z.length by omega)];exact hV (gd z (a-1)) (gd z pv)) (fun h=>by have:=of_decide_eq_true h;rw[hwa1 oM,Ax,qz (show a-1<z.length by omega)];rfl) rfl ?_;refine sW ?_;refine⟨kR,fun h=>?_,fun h=>?_⟩
 ·obtain⟨h13,h14⟩:=dand h;rw[Bx] at h14;rw[Aj ⟨oM,h14⟩] at h12;obtain⟨_,e2,e3,_,_⟩:=ql8 (ho) z hpr.1 hpr.2 oM;have e1:(Zs (ltR cV) z a b pv).1.length=z.length:=qB4;refine C1.upd 0 1 _ _ (kY cV fV hV z a b pv oM hpr.1 hpr.2 oM oM) rF (by apply qh;intro _;exact⟨rfl,rfl⟩) (by apply qh;intro _;exact⟨rfl,rfl⟩) (by rw[hzl];exact kX _ _ rF) rF ?_;generalize Zs (ltR cV) z a b pv=q at *
  refine sW ?_;refine⟨(q.1,q.2,b,l2,wb,wp,g),⟨by dsimp only;omega,by dsimp only;omega,by dsimp only;omega,by dsimp only;omega,by dsimp only;omega,hl3,h12⟩,by dsimp only;omega,?_⟩;exact .oA (U1 0) []
 have h13:=qB2 h;rw[Aq (fun e=>h13 ⟨oM,by have e2:=e.2;simp only[ltR] at e2;rw[e2];rfl⟩)] at h12;clear h h13;obtain⟨_,e2,e3,_,_⟩:=ql7 (ltR cV) z hpr.1 hpr.2 oM;have e1:(ko (ltR cV) z a b pv).1.length=z.length:=qB3;refine C1.upd 0 1 _ _ (yq cV fV hV z a b pv oM hpr.1 hpr.2 oM oM) rF (by apply qh;intro _;exact⟨rfl,rfl⟩) (by apply qh;intro _;exact⟨rfl,rfl⟩) (by rw[hzl];exact kX _ _ rF) rF ?_;generalize ko (ltR cV) z a b pv=q at *
 generalize flO (ltR cV) z a b pv=fl at *
 obtain⟨u,m⟩:=q;dsimp only at e1 e2 e3 h12;have hwm1:IntKind.i64.wrap ((m:Int)-a)=((m-a:Nat):Int):=by rw[AK _ oM];omega
 have hwm2:IntKind.i64.wrap ((b:Int)-m)=((b-m:Nat):Int):=by rw[AK _ oM];omega
 have hwm3:=qg (i:=m) oM;have hw8:IntKind.i64.wrap (((b-a:Nat):Int).tdiv 8)=(((b-a) / 8:Nat):Int):=by rw[Int.tdiv_eq_ediv_of_nonneg oM,AK _ oM];omega
 have hd1:decide (((m-a:Nat):Int)≥(((b-a) / 8:Nat):Int))=decide ((b-a) / 8≤m-a):=decide_eq_decide.2 oM;have hd2:decide (((b-m:Nat):Int)≥(((b-a) / 8:Nat):Int))=decide ((b-a) / 8≤b-m):=decide_eq_decide.2 oM;have hpl:=fun xs a b l w v=>zn9 (lt:=(ltR cV)) (cp:=(ZB cV fV hV)) (qD6 fV) g xs a b l w v;simp only[tZ,↓uU,simprocAttr,AZ,Ay,hwm1,hwm2,hw8];refine⟨fun h=>?_,fun h=>?_⟩
 ·rw[Aj oM] at h12;have hih:=ih g oM u a m l2 e2 oM oM oM hl3;have hpl1:=hpl u a m l2 true true;simp only[tZ,↓uU,simprocAttr,hd1];refine C1.upd 0 1 _ _ hih rF (by apply qh;intro _;exact⟨rfl,rfl⟩) (by apply qh;intro _;exact⟨rfl,rfl⟩) (by rw[e1,hzl];exact kX _ _ rF) rF ?_;simp only[tZ,↓uU,simprocAttr,hwm3];refine⟨(pdq (ltR cV) (ZB cV fV hV) (Jj fV) g u a m l2 true true,m+1,b,l2,decide ((b-a) / 8≤m-a),fl,g),⟨by dsimp only;omega,by dsimp only;omega,by dsimp only;omega,by dsimp only;omega,by dsimp only;omega,hl3,h12⟩,by dsimp only;omega,?_⟩;exact .oA (U1 0) []
 ·rw[Aq oM] at h12;have hih:=ih g oM u (m+1) b l2 oM oM oM oM hl3;have hpl1:=hpl u (m+1) b l2 true true;simp only[tZ,↓uU,simprocAttr,hd2,hwm3];refine C1.upd 0 1 _ _ hih rF (by apply qh;intro _;exact⟨rfl,rfl⟩) (by apply qh;intro _;exact⟨rfl,rfl⟩) (by rw[e1,hzl];exact kX _ _ rF) rF ?_;refine sW ?_;refine⟨(pdq (ltR cV) (ZB cV fV hV) (Jj fV) g u (m+1) b l2 true true,a,m,l2,decide ((b-a) / 8≤b-m),fl,g),⟨by dsimp only;omega,by dsimp only;omega,by dsimp only;omega,by dsimp only;omega,by dsimp only;omega,hl3,h12⟩,by dsimp only;omega,?_⟩;exact .oA (U1 0) []
include hV ho in
theorem JC (xs:List Rw) (hl:xs.length<65536):∃ ys,(ys.Perm xs∧Srt (ltR cV) ys 0 xs.length)∧
 Sp 26 [.asl 0 xs.length,.clo fV []] [aR 0 1 (xs.map rwT)] (.tup []) [aR 0 1 (ys.map rwT)]:=by
 obtain⟨lim,hlim,hs⟩:=yR xs.length hl;refine⟨pdq (ltR cV) (ZB cV fV hV) (Jj fV) (xs.length+1) xs 0 xs.length lim true true,zL1 (ho) (qU5 cV fV hV) (zA7 fV) xs lim,?_⟩;have hu:IntKind.u64.wrap (xs.length:Int)=(xs.length:Int):=by rw[IntKind.wrap_u64];omega
 refine sIr kS fun e _ hst=>?_;unfold zD;simp only[tZ,↓uU,simprocAttr,hu];refine C1.im hs rF rF ?_;refine sW ?_;refine C1.upd 0 1 _ _ (Qb cV fV hV ho (xs.length+1) xs 0 xs.length lim oM oM hl oM oM) rF (by apply qh;intro _;exact⟨rfl,rfl⟩) (by apply qh;intro _;exact⟨rfl,rfl⟩) (kX _ _ rF) rF ?_;refine sW ?_;exact .oA (U1 0) []
end
theorem zA8 (x y:Rw):IntKind.i64.wrap (hd x.1-hd y.1)=hd x.1-hd y.1:=AK _ (by have:=x.2;have:=y.2;omega)
theorem qi2 (x y:Rw):Sp 27 [rwT x,rwT y] [] (vI (hd x.1-hd y.1)) []:=by
 have h1:=zJ x.2.1;have h2:=zJ y.2.1;have a1:=x.2.1;have a2:=y.2.1;have hw:=zA8 x y;refine sIr JJ fun e _ hst=>?_;unfold wy;simp only[tZ,↓uU,simprocAttr,h1,h2,hw];refine⟨oM,oM,kR,?_⟩;exact .oA [] []
abbrev bidC (x y:Rw):Int:=hd x.1-hd y.1
theorem qI8 (x y:Rw):ltR bidC x y=decide (hd x.1<hd y.1):=decide_eq_decide.2 (by unfold bidC;omega)
theorem zA9:SWOrd (ltR bidC):=by
 refine⟨fun x y h=>?_,fun x y z h1 h2=>?_⟩
 ·rw[qI8] at h ⊢
  have:=of_decide_eq_true h;exact Cq oM
 ·rw[qI8] at h1 h2 ⊢
  have k1:=of_decide_eq_false h1;have k2:=of_decide_eq_false h2;exact Cq oM
theorem zr8 (l:List (List Int)) (hP:∀ r∈l,bidP r) (hl:l.length<65536):∃ ys:List (List Int),(ys.Perm l∧Srt (ltV bidV) ys 0 l.length)∧
 Sp 26 [.asl 0 l.length,.clo 27 []] [aR 0 1 (l.map vIs)] (.tup []) [aR 0 1 (ys.map vIs)]:=by
 obtain⟨xs,hx⟩:∃ xs:List Rw,xs.map (fun x=>x.1)=l:=by
  refine⟨l.attach.map fun r=>⟨r.1,(hP r.1 r.2).1,by have:=(hP r.1 r.2).2;omega,by have:=(hP r.1 r.2).2;omega⟩,?_⟩;rw[Gz];exact List.attach_map_subtype_val l
 subst hx;rw[BY] at hl;obtain⟨ys,⟨hp,hso⟩,hS⟩:=JC bidC 27 qi2 zA9 xs hl;have hpl:=hp.length_eq;refine⟨ys.map fun x=>x.1,⟨hp.map _,fun i j h1 h2 h3=>?_⟩,?_⟩
 ·rw[BY] at h3;have h4:=hso i j h1 h2 h3;have e1:gd (ys.map fun x=>x.1) i=(gd ys i).1:=by
   rw[ZM (show i<(ys.map fun x=>x.1).length by rw[BY];omega),ZM (show i<ys.length by omega),Fj]
  have e2:gd (ys.map fun x=>x.1) j=(gd ys j).1:=by
   rw[ZM (show j<(ys.map fun x=>x.1).length by rw[BY];omega),ZM (show j<ys.length by omega),Fj]
  unfold lew at h4 ⊢
  rw[e1,e2,qU4];rw[qI8] at h4;exact h4
 ·rw[BY,Gz,Gz];exact hS
theorem qi3 (s:Sch) (l:List (List Int)) (hn:s.cols.length<4611686018427387904) (hl:s.lists.length<4611686018427387904) (hr:∀ r∈l,r.length<4611686018427387904) (h12:l.length≤20):Sp 8 [schT s,vRw l] [] (.tup [srcT (newS s l),vI (newE s l)]) []:=by
 have hC:=Qx s hn hl;have hbad:∀ v,v≠0→newE s l=v→newS s l=src0:=fun v h1 h2=>by rw[newS,h2,Aj h1]
 refine sIr KI fun e _ hst=>?_;unfold ye;refine sW ?_;refine C1.im hC rF rF ?_;simp only[tZ,↓uU,simprocAttr,Bj,Aw,tD];refine⟨fun h=>?_,fun h=>⟨fun h2=>by omega,fun _=>?_⟩⟩
 ·have hE:newE s l=schE s:=by rw[newE,Aj h]
  rw[hbad _ h hE,hE];exact .oA [] []
 refine qy mixm (α:=Nat) [23] (fun i=>i≤l.length∧(l.take i).any (fun r=>rowE s r != 0)=false) (fun i=>[(23,vI i)]) (fun i=>[aR 4096 2 [schT s],aR 4100 5 [srcT src0]]) (fun i=>l.length-i) 0 ⟨oM,rfl⟩ ?_ fun i hi=>?_
 ·exact .oA (U2 4096 4100) []
 refine sD ?_;refine⟨fun h2=>?_,fun h2=>?_⟩
 ·have hi2:i<l.length:=by omega
  have hwi:=qg (i:=i) oM;have hF:=yo s h l[i] (hr _ (AX hi2));simp only[tZ,↓uU,simprocAttr,Ax,qd hi2];refine⟨oM,?_⟩;refine C1.im hF rF rF ?_;simp only[tZ,↓uU,simprocAttr,Bx,Bz,hwi];refine⟨fun h3=>?_,fun h3=>?_⟩
  ·have h4:(rowE s l[i] != 0)=true:=by rw[bne,h3];rfl
   have hE:newE s l=9:=by rw[newE,Aq (by rw[h];simp),Aq oM,Aj (WO (p:=fun r=>rowE s r != 0) hi2 h4)]
   rw[hbad 9 (by decide) hE,hE];exact .oA [] []
  ·refine⟨i+1,⟨oM,jz hi2 hi.2 (by rw[bne,h3];rfl)⟩,oM,?_⟩;exact .oA (U2 4096 4100) []
 have hil:i=l.length:=by omega
 subst hil;have h5:=hi.2;rw[Bw] at h5;have hfit:∀ r∈l,rowE s r=0:=fun r hr=>by
  have:=List.any_eq_false.1 h5 r hr;simpa using this
 have hok:=jn h;have hnc:=hok.nc;have hP:∀ r∈l,bidP r:=fun r hr=>⟨kz (hfit r hr),zz9 (hfit r hr)⟩;have hEv:newE s l=if dupB l=true then 10 else 0:=by rw[newE,Aq (by rw[h];simp),Aq oM,Aq (by rw[h5];simp)]
 have hrw:=yS l oM (fun r hr=>by have:=(Jg (hfit r hr)).2.1;omega);obtain⟨ys,⟨hp,hso⟩,hS⟩:=zr8 l hP oM;have hpl:=hp.length_eq;rw[← hpl] at hso;have hPy:∀ r∈ys,bidP r:=fun r hr=>hP r (hp.mem_iff.1 hr);refine C1.im (jS s hok) rF rF ?_;refine sW ?_;refine C1.fresh 53260 hrw rF (by apply qh;intro _;exact⟨rfl,rfl⟩) rF ?_;refine sW ?_;refine C1.upd 53260 1 _ _ hS rF (by apply qh;intro _;exact⟨rfl,rfl⟩) (by apply qh;intro _;exact⟨rfl,rfl⟩) ⟨by simp [ltA,ltC,ltC0,TL.get],yB rF⟩ rF ?_;refine sW ?_;rw[← hpl];refine⟨rfl,?_⟩;have hdup:dupB l=dupB ys:=by
  unfold dupB;have:=(hp.map hd).nodup_iff;by_cases k:(l.map hd).Nodup
  ·rw[Cx k,Cx (this.2 k)]
  ·rw[Cq k,Cq (fun e=>k (this.1 e))]
 rw[hdup] at hEv;have hy12:ys.length≤20:=by omega
 refine qy mixm (α:=Nat) [44] (fun i=>i≤ys.length∧∀ j,0<j→j<i→hd (ys.getD j default)≠hd (ys.getD (j-1) default)) (fun i=>[(44,vI i)]) (fun i=>[aR 4100 5 [srcT src0],aR 53260 1 (ys.map vIs),aR 53268 5 [.agg [.sl 2 (s.lists.map cdlT),.sl 7 (s.cols.map colT),.asl 53260 ys.length,.v (.slice none 0 0),vI 0]]]) (fun i=>ys.length-i) 0 ⟨oM,fun j h0 h1=>by omega⟩ ?_ fun i hi=>?_
 ·exact .oA (U3 4100 53260 53268) []
 obtain⟨i1,i2⟩:=hi;refine sD ?_;refine⟨fun h2=>?_,fun h2=>?_⟩
 ·have hi2:i<ys.length:=by omega
  have hwi:=qg (i:=i) oM;obtain⟨k,hk1,hk2,hk3⟩:∃ k:Nat,(IntKind.i64.wrap ((i:Int)-1)).toNat=k∧k<ys.length∧(i=0∧k=0∨0<i∧k+1=i∧IntKind.i64.wrap ((i:Int)-1)=k):=by
   rcases DX i with h0 | h0
   ·subst h0;exact⟨0,by decide,hi2,.inl ⟨rfl,rfl⟩⟩
   ·have e:=jM h0 (show i<4611686018427387904 by omega);exact⟨i-1,by rw[e];omega,oM,.inr ⟨h0,oM,e⟩⟩
  have hg:ys.getD i default=ys[i]:=qt hi2;have hgk:ys.getD k default=ys[k]:=qt hk2;have hpi:=(hPy _ (AX hi2)).1;have hpk:=(hPy _ (AX hk2)).1;have hgi:=zJ hpi;have hgi2:=zJ hpk;simp only[tZ,↓uU,simprocAttr,Ax,hk1,qd hi2,qd hk2,hgi,hgi2,tD,gt_iff_lt,AY,Ak];refine⟨fun _=>by omega,fun _=>by omega,fun _=>by omega,fun _=>by omega,fun _=>by omega,fun _=>by omega,kR,fun h3=>?_,fun h3=>?_⟩
  ·have hD:dupB ys=true:=by
    unfold dupB;rw[Bx,Ay];intro hn;have:=DZ.1 hn k i (by rw[BY];omega) (by rw[BY];omega) oM;rw[Fj,Fj] at this;exact this h3.2.symm
   rw[Aj hD] at hEv;rw[hbad 10 (by decide) hEv,hEv];exact .oA [] []
  ·simp only[tZ,↓uU,simprocAttr,hwi];refine⟨i+1,⟨oM,fun j h0 hj=>?_⟩,oM,?_⟩
   ·by_cases e:j=i
    ·subst e;rw[hg,show j-1=k by omega,hgk];exact fun e=>by
      rcases h3 with h3 | h3
      ·omega
      ·exact h3 e
    ·exact i2 j h0 oM
   ·exact .oA (U3 4100 53260 53268) []
 ·have hil:i=ys.length:=by omega
  subst hil;have hA:=zr7 hso (fun i h0 hi=>i2 i h0 hi);have hnd:(ys.map hd).Nodup:=List.pairwise_map.2 (hA.imp fun h e=>by omega);have hD:dupB ys=false:=by unfold dupB;rw[Cx hnd];rfl
  rw[Aq (by rw[hD];simp)] at hEv;have hnl:(l.map hd).Nodup:=(hp.map hd).nodup_iff.1 hnd;obtain⟨q1,q2⟩:=qe7 l [] List.Pairwise.nil hnl;have hy:newL l=ys:=KV q1 hA fun x=>by
   show x∈l.foldl putR []↔x∈ys;rw[q2,hp.mem_iff];simp
  have hNS:newS s l=⟨s,ys,[],0⟩:=by rw[newS,hEv,Aq sMp,hy]
  rw[hEv,hNS];exact .oA [] [53260]
theorem WA (s:Sch) (hs:qC5 s) (hc:∀ c∈s.cols,c.widths.length<4611686018427387904):Sp 30 [schT s,schT s] [] (vB true) []:=by
 obtain⟨hs1,hs2,hs3⟩:=hs;refine sIr qp8 fun e _ hst=>?_;unfold QY;simp only[tZ,↓uU,simprocAttr,bne_self_eq_false,Bool.or_false];refine qy mixm (α:=Nat) [5] (fun i=>i≤s.lists.length) (fun i=>[(5,vI i)]) (fun i=>[aR 4096 2 [schT s],aR 4100 2 [schT s]]) (fun i=>s.lists.length-i) 0 oM ?_ fun i hi=>?_
 ·exact .oA (U2 4096 4100) []
 refine sD ?_;refine⟨fun h2=>?_,fun h2=>?_⟩
 ·have hi2:i<s.lists.length:=by omega
  have hwi:=qg (i:=i) oM;have hcl:=hs3 _ (AX hi2);simp only[tZ,↓uU,simprocAttr,Ax,qd hi2,bne_self_eq_false,Bool.or_false];refine⟨oM,oM,oM,oM,kR,?_⟩;refine qy mixm (α:=Nat) [6] (fun k=>k≤s.lists[i].codes.length) (fun k=>[(6,vI k)]) (fun k=>[aR 4096 2 [schT s],aR 4100 2 [schT s]]) (fun k=>s.lists[i].codes.length-k) 0 oM ?_ fun k hk=>?_
  ·exact .oA (U2 4096 4100) []
  simp only[tZ,↓uU,simprocAttr,Ax,qd hi2,tD];refine⟨oM,fun h3=>?_,fun h3=>?_⟩
  ·have hk2:k<s.lists[i].codes.length:=by omega
   have hwk:=qg (i:=k) oM;simp only[tZ,↓uU,simprocAttr,Ax,qd hi2,qd hk2,hwk];refine⟨oM,oM,oM,oM,kR,k+1,oM,oM,?_⟩;exact .oA (U2 4096 4100) []
  ·simp only[tZ,↓uU,simprocAttr,hwi];refine⟨i+1,oM,oM,?_⟩;exact .oA (U2 4096 4100) []
 ·have hil:i=s.lists.length:=by omega
  refine qy mixm (α:=Nat) [7] (fun i=>i≤s.cols.length) (fun i=>[(7,vI i)]) (fun i=>[aR 4096 2 [schT s],aR 4100 2 [schT s]]) (fun i=>s.cols.length-i) 0 oM ?_ fun i hi=>?_
  ·exact .oA (U2 4096 4100) []
  refine sD ?_;refine⟨fun h2=>?_,fun h2=>?_⟩
  ·have hi2:i<s.cols.length:=by omega
   have hwi:=qg (i:=i) oM;have hI:=Jd s.cols[i].widths s.cols[i].widths (hc _ (AX hi2));rw[qd2.2 rfl] at hI;simp only[tZ,↓uU,simprocAttr,Ax,qd hi2,bne_self_eq_false,Bool.or_false];refine⟨oM,oM,kR,?_⟩;refine C2.im (fun _=>hI) (fun _=>rfl) rF ?_;simp only[tZ,↓uU,simprocAttr,hwi];refine⟨i+1,oM,oM,?_⟩;exact .oA (U2 4096 4100) []
  ·exact .oA [] []
theorem SchOk.wdl {s:Sch} (h:SchOk s) {c:Col} (hc:c∈s.cols):c.widths.length≤4:=by
 obtain⟨i,hi,rfl⟩:=CX hc;have hat:qA s i=s.cols[i]:=by rw[qA,qt hi]
 have hE:=h.cs i hi;have hEc:=wI hE;rw[hat] at hEc;by_cases k3:s.cols[i].kind=3
 ·have hm:=hEc.2.2.2.2 k3;unfold measE at hm;split at hm
  ·cases hm
  ·split at hm
   ·cases hm
   ·omega
 ·unfold colE at hE;rw[hat] at hE
  repeat (split at hE;first | (exfalso;revert hE;decide) | (rename_i q;try (exact absurd hE q.2)))
  all_goals omega
structure SmS (s:Src):Prop where
 sch:qC5 s.sch
 wid:∀ c∈s.sch.cols,c.widths.length<4611686018427387904
 rows:s.rows.length<4611686018427387904
 row:∀ r∈s.rows,r.length<4611686018427387904
 gone:s.gone.length<4611686018427387904
theorem SrcOk.same {s:Src} (h:SrcOk s):SmS s:=⟨(jn h.sch).sm,fun c hc=>by have:=(jn h.sch).wdl hc;omega,by have:=h.nr;omega,h.smy.2,by have:=h.ng;omega⟩
theorem zr9:SmS src0:=⟨⟨by decide,by decide,sMp⟩,sMp,by decide,sMp,by decide⟩
theorem WB (s:Src) (h:SmS s):Sp 10 [srcT s,srcT s] [] (vB true) []:=by
 have hR:=qC3 s.rows s.rows h.rows h.row;rw[qY5.2 rfl] at hR;have hI:=Jd s.gone s.gone h.gone;rw[qd2.2 rfl] at hI;refine sIr qp4 fun e _ hst=>?_;unfold QV;refine sW ?_;refine C1.im (WA s.sch h.sch h.wid) rF rF ?_;refine sW ?_;refine C2.im (fun _=>hR) (fun _=>rfl) rF ?_;refine sW ?_;refine C2.im (fun _=>hI) (fun _=>rfl) rF ?_;simp only[tZ,↓uU,simprocAttr,beq_self_eq_true];exact .oA [] []
def aw4:Sch:=⟨[],[⟨⟨#[119,104,111]⟩,1,0,0,0,[],false⟩]⟩
def aw4x:Src:=⟨aw4,[[3],[7]],[],0⟩
def aw4y:Src:=⟨aw4,[[3]],[7],1⟩
theorem KY:Sp 4 [] [] (vB true) []:=by
 have hN:=qD5 aw4 [[7],[3]] (by decide) (by decide) sMp (by decide);rw[show newS aw4 [[7],[3]]=aw4x by kernel_rfl,show newE aw4 [[7],[3]]=0 by kernel_rfl] at hN;have hsx:zq5 aw4x:=⟨⟨by decide,by decide,by simp [aw4x,aw4]⟩,by simp [aw4x]⟩;have hsy:zq5 aw4y:=⟨⟨by decide,by decide,by simp [aw4y,aw4]⟩,by simp [aw4y]⟩;have hA:=JO aw4x ⟨4,[],7⟩ hsx (by decide) (by unfold idOk;decide);rw[show KT aw4x ⟨4,[],7⟩=aw4y by kernel_rfl,show JM aw4x ⟨4,[],7⟩=0 by kernel_rfl] at hA;have hB:=JO aw4y ⟨1,[7],0⟩ hsy (by decide) (by unfold idOk;decide);rw[show KT aw4y ⟨1,[7],0⟩=src0 by kernel_rfl,show JM aw4y ⟨1,[7],0⟩=20 by kernel_rfl] at hB;have hV:=wz aw4x (by decide) (by decide) (by simp [aw4x]);rw[show srcB aw4x=true by kernel_rfl] at hV;have hF:=yp aw4y 7 (by decide);rw[show Qa aw4y 7 = -1 by kernel_rfl] at hF;have hG:=yp aw4y 3 (by decide);rw[show Qa aw4y 3=0 by kernel_rfl] at hG;refine sIr qf6 fun e _ hst=>?_;unfold Qj;refine sW ?_;refine C1.shutD [8196,12292,12296,12300] hN ?_ rF rfl ?_
 ·simp [ptw,ltAD,ltD,TL.get,T.cells,imT,imL,aw4]
  all_goals (try (repeat' apply Az))
  all_goals (try rfl)
 refine sW ?_;refine C1.shut [] hA ?_ rF rfl ?_
 ·all_goals (try exact clA)
 refine sW ?_;refine C1.shutD [20484] hB ?_ rF rfl ?_
 ·simp [ptw,ltAD,ltD,TL.get,T.cells,imT,imL,aw4y]
  all_goals (try (repeat' apply Az))
  all_goals (try rfl)
 refine sW ?_;refine C2.im (fun _=>hV) (fun _=>rfl) rF ?_;refine sW ?_;refine C2.im (fun _=>hF) (fun _=>rfl) rF ?_;refine sW ?_;refine C2.im (fun _=>hG) (fun _=>rfl) rF ?_;refine sW ?_;rw[show (((aw4x.rows.length:Nat):Int)==2&&aw4y.ver==1)=true by rfl];exact .oA [] []
theorem zs2 {k:Int} {r:List Int} (h:0<r.length):atR k r=true↔hd r=k:=by
 unfold atR;rw[Bq,AZ,AY];exact⟨fun x=>x.2,fun x=>⟨h,x⟩⟩
def accN (l:List (List Int)) (i:Nat):List (List Int):=(l.take i).foldl putR []
theorem qD7 {l:List (List Int)} {i:Nat} (h:i<l.length):accN l (i+1)=putR (accN l i) l[i]:=by
 unfold accN;rw[jd h,Gx];rfl
theorem zs3 {l:List (List Int)} {i:Nat} (hn:((l.take i).map hd).Nodup):AscR (accN l i)∧∀ x,x∈accN l i↔x∈l.take i:=by
 obtain⟨a,b⟩:=qe7 (l.take i) [] List.Pairwise.nil hn;exact⟨a,fun x=>by
  show x∈(l.take i).foldl putR []↔_;rw[b];simp⟩
theorem Yx (l:List (List Int)):∀ i,(accN l i).length≤i
 | 0=>by simp [accN]
 | i+1=>by
   by_cases h:i<l.length
   ·rw[qD7 h];have:=qT8 (accN l i) l[i];have:=Yx l i;omega
   ·have e:accN l (i+1)=accN l i:=by unfold accN;rw[List.take_of_length_le oM,List.take_of_length_le oM]
    rw[e];have:=Yx l i;omega
theorem zs4 {s:Sch} {l:List (List Int)} (hp:∀ r∈l,0<r.length) {i:Nat} (h:i<l.length) (hn:((l.take i).map hd).Nodup):(Qa ⟨s,accN l i,[],0⟩ (hd l[i])≥0→dupB l=true)∧(¬ Qa ⟨s,accN l i,[],0⟩ (hd l[i])≥0→((l.take (i+1)).map hd).Nodup):=by
 obtain⟨_,hm⟩:=zs3 hn;have hf:=KU (s:=⟨s,accN l i,[],0⟩) (id:=hd l[i]);dsimp only at hf;constructor
 ·intro h2;have h3:¬ ∀ r∈accN l i,atR (hd l[i]) r=false:=fun k=>by have:=hf.2 k;omega
  have h4:∃ r∈accN l i,atR (hd l[i]) r=true:=AQ fun k=>h3 fun r hr=>by
   cases e:atR (hd l[i]) r with
   | false=>rfl
   | true=>exact absurd ⟨r,hr,e⟩ k
  obtain⟨r,hr,e⟩:=h4;have hrl:=EX ((hm r).1 hr);rw[zs2 (hp r hrl)] at e;obtain⟨j,hj,ej⟩:=CX ((hm r).1 hr);rw[Cz] at hj;rw[Fy] at ej;unfold dupB;rw[Bx,Ay];intro k;have:=DZ.1 k j i (by rw[BY];omega) (by rw[BY];omega) oM;rw[Fj,Fj,ej] at this;exact this e
 ·intro h2;have h3:=hf.1 oM;rw[jd h,By,List.map_cons,List.map_nil,List.nodup_append];refine⟨hn,sMp,fun a ha b hb=>?_⟩;rw[Ey.1 hb];obtain⟨r,hr,rfl⟩:=Cj.1 ha;intro e;have h4:=h3 r ((hm r).2 hr);have:=(zs2 (k:=hd l[i]) (hp r (EX hr))).2 e;rw[this] at h4;cases h4
theorem qI9 (s:Sch) (l:List (List Int)) (hs:qC5 s) (hr:∀ r∈l,r.length<4611686018427387904) (hl:l.length≤1000000):Sp 9 [schT s,vRw l] [] (.tup [srcT (newS s l),vI (newE s l)]) []:=by
 have hC:=Zl s hs;have hbad:∀ v,v≠0→newE s l=v→newS s l=src0:=fun v h1 h2=>by rw[newS,h2,Aj h1]
 refine sIr qB6 fun e _ hst=>?_;unfold ZP;refine sW ?_;refine C1.im hC rF rF ?_;simp only[tZ,↓uU,simprocAttr,Bj,Aw,tD,gt_iff_lt];refine⟨fun h=>?_,fun h=>⟨fun h2=>?_,fun h2=>?_⟩⟩
 ·have hE:newE s l=schE s:=by rw[newE,Aj h]
  rw[hbad _ h hE,hE];exact .oA [] []
 ·have hE:newE s l=1:=by rw[newE,Aq (by rw[h];simp),Aj oM]
  rw[hbad 1 (by decide) hE,hE];exact .oA [] []
 refine qy mixm (α:=Nat) [7] (fun i=>i≤l.length∧(l.take i).any (fun r=>rowE s r != 0)=false) (fun i=>[(7,vI i)]) (fun i=>[aR 4096 2 [schT s],aR 4100 5 [srcT src0]]) (fun i=>l.length-i) 0 ⟨oM,rfl⟩ ?_ fun i hi=>?_
 ·exact .oA (U2 4096 4100) []
 refine sD ?_;refine⟨fun h3=>?_,fun h3=>?_⟩
 ·have hi2:i<l.length:=by omega
  have hwi:=qg (i:=i) oM;have sR:=qd9 s hs l[i] (hr _ (AX hi2));simp only[tZ,↓uU,simprocAttr,Ax,qd hi2];refine⟨oM,?_⟩;refine C1.im sR rF rF ?_;simp only[tZ,↓uU,simprocAttr,Bj,Aw,hwi];refine⟨kR,fun h4=>?_,fun h4=>?_⟩
  ·have h5:(rowE s l[i] != 0)=true:=Bj.2 h4;have hE:newE s l=9:=by rw[newE,Aq (by rw[h];simp),Aq oM,Aj (WO (p:=fun r=>rowE s r != 0) hi2 h5)]
   have h9:rowE s l[i]=9:=by
    rw[rowE,Aq (by rw[h];simp)];rw[rowE,Aq (by rw[h];simp)] at h4;split
    ·rfl
    ·rename_i k1;rw[Aq k1] at h4;split
     ·rfl
     ·rename_i k2;rw[Aq k2] at h4;exact absurd rfl h4
   rw[hbad 9 (by decide) hE,hE,h9];exact .oA [] []
  ·refine⟨i+1,⟨oM,jz hi2 hi.2 (by rw[bne,h4];rfl)⟩,oM,?_⟩;exact .oA (U2 4096 4100) []
 have hil:i=l.length:=by omega
 subst hil;have h5:=hi.2;rw[Bw] at h5;have hfit:∀ r∈l,rowE s r=0:=fun r hr=>by
  have:=List.any_eq_false.1 h5 r hr;simpa using this
 have hP:∀ r∈l,0<r.length:=fun r hr=>kz (hfit r hr);have hEv:newE s l=if dupB l=true then 10 else 0:=by rw[newE,Aq (by rw[h];simp),Aq oM,Aq (by rw[h5];simp)]
 refine qy mixm (α:=Nat) [10] (fun i=>i≤l.length∧((l.take i).map hd).Nodup) (fun i=>[(10,vI i)]) (fun i=>[aR 4100 5 [srcT src0],aR 53256 5 [srcT ⟨s,accN l i,[],0⟩]]) (fun i=>l.length-i) 0 ⟨oM,sMp⟩ ?_ fun i hi=>?_
 ·exact .oA (U2 4100 53256) []
 obtain⟨i1,i2⟩:=hi;have hal:=Yx l i;refine sD ?_;refine⟨fun h3=>?_,fun h3=>?_⟩
 ·have hi2:i<l.length:=by omega
  have hwi:=qg (i:=i) oM;have hpl:=hP _ (AX hi2);have hg:=zJ hpl;have sF:=Qg ⟨s,accN l i,[],0⟩ (hd l[i]) (by dsimp only;omega);obtain⟨f1,f2⟩:=zs4 (s:=s) hP hi2 i2;obtain⟨_,am⟩:=zs3 i2;have sP:=qe3 (accN l i) l[i] oM (fun r hr=>hP r (EX ((am r).1 hr))) hpl;rw[← qD7 hi2] at sP;simp only[tZ,↓uU,simprocAttr,Ax,qd hi2,hg];refine⟨oM,oM,?_⟩;refine C1.im sF rF rF ?_;simp only[tZ,↓uU,simprocAttr,ge_iff_le,AZ,Ay];refine⟨kR,fun h4=>?_,fun h4=>?_⟩
  ·have hD:=f1 h4;rw[Aj hD] at hEv;rw[hbad 10 (by decide) hEv,hEv];exact .oA [] []
  ·simp only[tZ,↓uU,simprocAttr,Ax,qd hi2];refine⟨oM,?_⟩;refine C1.im sP rF rF ?_;simp only[tZ,↓uU,simprocAttr,hwi];refine⟨kR,i+1,⟨oM,f2 h4⟩,oM,?_⟩;exact .oA (U2 4100 53256) []
 ·have hil:i=l.length:=by omega
  subst hil;rw[Bw] at i2;have hD:dupB l=false:=by unfold dupB;rw[Cx i2];rfl
  rw[Aq (by rw[hD];simp)] at hEv;have e1:accN l l.length=newL l:=by unfold accN newL;rw[Bw]
  have hNS:newS s l=⟨s,newL l,[],0⟩:=by rw[newS,hEv,Aq sMp]
  rw[hEv,hNS,e1];exact .oA [] []
theorem zz (l:List UInt8) (at_:Nat) (lo hi:Int) (hl:l.length≤400) (ha:at_≤l.length) (hlo : -1000000≤lo∧lo≤1000000) (hhi:lo≤hi∧hi≤lo+100000) :
 Sp 40 [.ptr 0 1 0 0,vI lo,vI hi] [(0,oC l at_)] (vI (lo+(nx l at_ (hi-lo+1)).1)) [(0,oC l (nx l at_ (hi-lo+1)).2)]:=by
 refine sIr Kb fun e _ hst=>?_;unfold kp;have hw1:IntKind.i64.wrap (hi-lo)=hi-lo:=AK _ oM;have hw2:IntKind.i64.wrap (hi-lo+1)=hi-lo+1:=AK _ oM;simp only[tZ,↓uU,simprocAttr,hw1,hw2];refine C1.draw 0 l at_ _ (zK l at_ (hi-lo+1) hl ha oM) rfl rfl rfl ?_;have hr:=ka l at_ (hi-lo+1) oM;have hw3:IntKind.i64.wrap (lo+(nx l at_ (hi-lo+1)).1)=lo+(nx l at_ (hi-lo+1)).1:=AK _ oM;simp only[tZ,↓uU,simprocAttr,hw3];refine .of (U1 0) [] rfl rfl ?_ ?_
 ·simp only[tL,simprocAttr];exact za ⟨rfl,rfl,rfl,rfl,trivial⟩ zl
 ·simp only[tL,simprocAttr]
def iter {α:Type} (f:α→α):Nat→α→α
 | 0,x=>x
 | n+1,x=>f (iter f n x)
def tie (p:Int×Int):Int:=p.1*1024+p.2
def cut (n:Int):Int×Int:=(n / 1024,n % 1024)
set_option maxHeartbeats 4000000
def drw0 (seed id:Int):Int:=IntKind.u64.wrap (IntKind.u64.wrap (IntKind.u64.wrap (IntKind.u64.wrap seed*2654435761)+IntKind.u64.wrap (IntKind.u64.wrap id*40503))+97)
def drwA (h:Int):Int:=IntKind.u64.wrap (IntKind.u64.wrap (h*6364136223846793005)+1442695040888963407)
def drwX (h:Int):Int:=xorI .u64 (drwA h) (shrI .u64 (drwA h) 29)
def drwI (seed id:Int):Int:=IntKind.i64.wrap (shrI .u64 (iter drwX 3 (drw0 seed id)) 32)
def inS (x:Smp) (id:Int):Bool:=(smpE x==0)&&decide (1≤id)&&decide (id≤1048575)&&decide ((drwI x.seed id).tmod x.of<x.part)
def ownP (s:Src) (d:Dcl) (r:List Int):Bool:=(zU6 s.sch d.coh r==1)&&inS d.smp (hd r)
def ownR (s:Src) (d:Dcl):List (List Int):=if srcB s=false∨dclE s.sch d≠0 then [] else s.rows.filter (ownP s d)
def ownS (s:Src) (d:Dcl):List Int:=(ownR s d).map hd
def buildE (s:Src) (d:Dcl) (l:List Pk) (k:Int):Int:=if srcB s=false then 13 else if zS3 s.sch d l≠0 then zS3 s.sch d l else if k<0∨k≥1152921504606846976 then 2 else 0
def d36:ByteArray:=⟨#[48,49,50,51,52,53,54,55,56,57,97,98,99,100,101,102,103,104,105,106,107,108,109,110,111,112,113,114,115,116,117,118,119,120,121,122]⟩
theorem qm1 {a b:ByteArray} (h:a.data.toList=b.data.toList):a=b:=by
 cases a;cases b;exact congrArg ByteArray.mk (Array.ext' h)
def dgS (n:Nat):ByteArray:=⟨#[dgt n]⟩
theorem zT3 (n:Nat) (h:n<10):d36.extract n (n+1)=dgS n:=by
 have:((List.range 10).all fun n=>(d36.extract n (n+1)).data.toList==(dgS n).data.toList)=true:=by decide +kernel
 exact qm1 (eq_of_beq (Bk.1 this n (Dk.2 h)))
theorem qU6 (c:UInt8) (n:Nat):(⟨#[c]⟩:ByteArray)++dgS n=⟨#[c,dgt n]⟩:=by
 apply qm1
 rw[ByteArray.toList_data_append]
 rfl
theorem zN0 (n:Nat) (h:n<10):Sp 109 [vI n] [] (vS (dgS n)) []:=by
 have h1:=qg (i:=n) oM;have z1:d36.size=36:=rfl;refine sIr Qv fun e _ hst=>?_;unfold zZ;simp only[tZ,↓uU,simprocAttr,tD,h1,Ax];refine⟨fun h2=>?_,fun h2=>by omega⟩;refine⟨?_,?_⟩
 ·show (0≤(n:Int)∧(n:Int)≤((n+1:Nat):Int)∧((n+1:Nat):Int)≤(d36.size:Int));omega
 ·show yU [] (vS (d36.extract n (n+1))) [] (vS (dgS n)) [];rw[zT3 n oM];exact .oA [] []
theorem qU7 (n:Nat) (h:n<10):Sp 42 [vI n] [] (vS (dgS n)) []:=by
 have h1:Sp 96 [vI n,vI 10] [] (vS (dgS n)) []:=by
  have e1:decide (0≤(n:Int))=true:=Cx oM;have e2:decide ((n:Int)<100)=true:=Cx oM;refine sIr wV fun e _ hst=>?_;unfold zB;simp only[tZ,↓uU,simprocAttr,beq_self_eq_true,e1,e2,Fq];refine C1.im (zN0 n h) rF rF ?_;refine sW ?_;exact .oA [] []
 have h2:Sp 61 [vI n] [] (vS (dgS n)) []:=by
  refine sIr QG fun e _ hst=>?_;unfold jg;refine sW ?_;refine C1.im h1 rF rF ?_;refine sW ?_;exact .oA [] []
 refine sIr qb7 fun e _ hst=>?_;unfold yG;refine sW ?_;refine C1.im h2 rF rF ?_;refine sW ?_;exact .oA [] []
def oneB (l:List UInt8) (a:Nat) (n:Int):Bool:=(nx l a n).1==n-1
theorem kg (l:List UInt8) (a:Nat) (n:Int) (hl:l.length≤400) (ha:a≤l.length) (hn:0≤n∧n≤1000000):Sp 39 [.ptr 0 1 0 0,vI n] [(0,oC l a)] (vB (oneB l a n)) [(0,oC l (nx l a n).2)]:=by
 have hw:IntKind.i64.wrap (n-1)=n-1:=AK _ oM;refine sIr Ws fun e _ hst=>?_;unfold wj;refine sW ?_;refine C1.draw 0 l a _ (zK l a n hl ha hn.2) rfl rfl rfl ?_;simp only[tZ,↓uU,simprocAttr,hw];rw[show ((nx l a n).1==n-1)=oneB l a n from rfl];exact .oA (U1 0) []
theorem zI1 (l:List UInt8) (a:Nat) (n:Int) (hl:l.length≤400) (ha:a≤l.length) (hn:1≤n∧n≤1000000) :
 ∃ v b,0≤v∧v<n∧b≤l.length∧Sp 19 [.ptr 0 1 0 0,vI n] [(0,oC l a)] (vI v) [(0,oC l b)]:=
 ⟨_,_,(ka l a n hn.1).1,(ka l a n hn.1).2,KG l a n ha,zK l a n hl ha hn.2⟩
theorem zs5 (l:List UInt8) (a:Nat) (lo hi:Int) (hl:l.length≤400) (ha:a≤l.length) (hlo : -1000000≤lo∧lo≤1000000) (hhi:lo≤hi∧hi≤lo+100000) :
 ∃ v b,lo≤v∧v≤hi∧b≤l.length∧Sp 40 [.ptr 0 1 0 0,vI lo,vI hi] [(0,oC l a)] (vI v) [(0,oC l b)]:=by
 have r:=ka l a (hi-lo+1) oM;exact⟨_,_,oM,oM,KG l a (hi-lo+1) ha,zz l a lo hi hl ha hlo hhi⟩
theorem zV3 (l:List UInt8) (a:Nat) (n:Int) (hl:l.length≤400) (ha:a≤l.length) (hn:0≤n∧n≤1000000) :
 ∃ o b,b≤l.length∧Sp 39 [.ptr 0 1 0 0,vI n] [(0,oC l a)] (vB o) [(0,oC l b)]:=
 ⟨_,_,KG l a n ha,kg l a n hl ha hn⟩
theorem zN1 (m:Nat) (h:m<4):wTab.getD m []∈wTab:=by rw[qt (by exact h)];exact AX _
theorem wY (n:Nat) (l:List UInt8) (a:Nat) (hl:l.length≤400) (ha:a≤l.length) :
 ∃ r:Col×Nat,(DrM n r.1∧r.2≤l.length)∧Sp 41 [.ptr 0 1 0 0,vS ⟨#[109,dgt n]⟩] [(0,oC l a)] (colT r.1) [(0,oC l r.2)]:=by
 have h1:=zz l a (-4) 2 hl ha oM oM;have r1:=ka l a (2 - -4+1) oM;have b1:=KG l a (2 - -4+1) ha;generalize nx l a (2 - -4+1)=x1 at h1 r1 b1;have h2:=zK l x1.2 4 hl b1 oM;have r2:=ka l x1.2 4 oM;have b2:=KG l x1.2 4 b1;generalize nx l x1.2 4=x2 at h2 r2 b2;have h3:=kg l x2.2 3 hl b2 oM;have b3:=KG l x2.2 3 b2;generalize (nx l x2.2 3).2=a3 at h3 b3;generalize oneB l x2.2 3=o at h3;have h4:=zK l a3 45 hl b3 oM;have r4:=ka l a3 45 oM;have b4:=KG l a3 45 b3;generalize nx l a3 45=x4 at h4 r4 b4;refine⟨(⟨⟨#[109,dgt n]⟩,3,0,-4+x1.1,-4+x1.1+x4.1,wTab.getD x2.1.toNat [],o⟩,x4.2),⟨⟨rfl,rfl,rfl,by dsimp only;omega,by dsimp only;omega,zN1 _ oM⟩,b4⟩,?_⟩;obtain⟨m,hm⟩:=AJ r2.1;have hw:IntKind.i64.wrap (-4+x1.1+x4.1) = -4+x1.1+x4.1:=AK _ oM;refine sIr ZV fun e _ hst=>?_;unfold jF;refine sW ?_;refine C1.draw 0 l a _ h1 rfl rfl rfl ?_;refine sW ?_;refine C1.draw 0 l x1.2 _ h2 rfl rfl rfl ?_;rw[hm] at r2 ⊢
 rw[Ax];have hm4:m=0∨m=1∨m=2∨m=3:=by omega
 have k0:wTab.getD 0 []=[1]:=rfl;have k1:wTab.getD 1 []=[1,5]:=rfl;have k2:wTab.getD 2 []=[1,5,20]:=rfl;have k3:wTab.getD 3 []=[1,2,4,12]:=rfl;rcases hm4 with e | e | e | e
 all_goals (
  subst e;simp only[tZ,↓uU,simprocAttr,Ax,k0,k1,k2,k3]
  repeat (refine⟨oM,?_⟩)
  refine C1.draw 0 l x2.2 _ h3 rfl rfl rfl ?_;refine sW ?_;refine⟨kR,?_⟩;refine C1.draw 0 l a3 _ h4 rfl rfl rfl ?_;simp only[tZ,↓uU,simprocAttr,hw];refine⟨kR,?_⟩
  )
 ·exact .oA (U1 0) [8204]
 ·exact .oA (U1 0) [8208]
 ·exact .oA (U1 0) [8212]
 ·exact .oA (U1 0) [8216]
def addN (i:Nat):Nat→List Cod→List Cod
 | 0,cs=>cs
 | k+1,cs=>addN i k (addL cs i)
theorem qe9 (i:Nat):∀ (k:Nat) (cs:List Cod),(List.range k).foldl (fun cs _=>addL cs i) cs=addN i k cs:=by
 have key:∀ (m:List Nat) (cs:List Cod),m.foldl (fun cs _=>addL cs i) cs=addN i m.length cs:=by
  intro m
  induction m with
  | nil=>intro cs;rfl
  | cons x m ih=>intro cs;rw[Dw,ih];rfl
 intro k cs;rw[key,List.length_range]
theorem qD8:∀ (ns:List Nat) (cs:List Cod) (i n:Nat),lefL cs i (ns++[n])=addN (i+ns.length) n (lefL cs i ns)
 | [],cs,i,n=>by rw[Cy,lefL,lefL,qe9];rfl
 | x::r,cs,i,n=>by rw[BW,lefL,lefL,qD8 r _ (i+1) n,CJ,show i+1+r.length=i+(r.length+1) by omega]
theorem qU8 (i:Nat):∀ (k:Nat) (cs:List Cod),(addN i k cs).length=cs.length+k
 | 0,cs=>rfl
 | k+1,cs=>by rw[addN,qU8 i k,addL,AW];simp;omega
theorem qU9:∀ (ns:List Nat) (cs:List Cod) (i:Nat),(∀ x∈ns,x=1∨x=2)→cs.length+ns.length≤(lefL cs i ns).length∧(lefL cs i ns).length≤cs.length+2*ns.length
 | [],cs,i,_=>by rw[lefL];simp
 | x::r,cs,i,h=>by
   have h1:=qU9 r ((List.range x).foldl (fun cs _=>addL cs i) cs) (i+1) fun y hy=>h y (CQ _ hy);rw[qe9,qU8] at h1;rw[lefL,qe9,CJ];have:=h x sMp;omega
theorem QN (nm:ByteArray) (hnm:nm=qC7∨nm=qC8) (l:List UInt8) (a:Nat) (hl:l.length≤400) (ha:a≤l.length) :
 ∃ r:CodL×Nat,(DrL nm r.1∧r.2≤l.length)∧Sp 38 [.ptr 0 1 0 0,vS nm] [(0,oC l a)] (cdlT r.1) [(0,oC l r.2)]:=by
 have h1:=zz l a 1 3 hl ha oM oM;have r1:=ka l a (3-1+1) oM;have b1:=KG l a (3-1+1) ha;generalize nx l a (3-1+1)=x1 at h1 r1 b1;obtain⟨K,hK⟩:=AJ (show 0≤1+x1.1 by omega);rw[hK] at h1;have hK3:1≤K∧K≤3:=by omega
 refine Qe KM mixm (fun r:CodL×Nat=>cdlT r.1) (fun r=>[(0,oC l r.2)]) sMp ?_;unfold kT;refine sW ?_;refine XE.mp (fun _ _=>C1.draw 0 l a _ h1 rfl rfl rfl) ?_;refine sW ?_;have hk0:(Zy 0).map codT=[.agg [vS ⟨#[116,111,112]⟩,vI (-1)]]:=rfl;have hkl:∀ i,(Zy i).length=i+1:=fun i=>by simp [Zy]
 have hks:∀ i,Zy (i+1)=Zy i++[kidC i]:=fun i=>by rw[Zy,List.range_succ,By];rfl
 refine XE.loopF mixm [7] (fun i:Nat=>i≤K) (fun i=>[(7,vI i)]) (fun i=>[(0,oC l x1.2),aR 4096 2 [cdlT default],aR 8200 2 ((Zy i).map codT),aR 8208 2 [.agg [vS nm,.asl 8200 (i+1)]]]) (fun i=>K-i) 0 oM (fun e ⟨_,hst⟩=>?_) fun T' i hi ih=>?_
 ·simp only[hk0];exact .oA (U4 0 4096 8200 8208) []
 simp only[tZ,↓uU,simprocAttr,AZ,Ay];refine XE.brN (fun h=>?_) (fun h=>?_)
 ·have hwi:=qg (i:=i) oM;refine XE.mp (fun _ _=>C1.im (qU7 i oM) rF rF) ?_;simp only[tZ,↓uU,simprocAttr,hwi];refine XE.sd (show 1+1≤9223372036854775807 by omega) (XE.sd ⟨hkl i,oM⟩ (XE.sd (hkl i) (XE.sd kR ?_)));refine XE.next ih (i+1) oM oM fun e ⟨_,hst⟩=>?_;rw[qU6,hks];exact .oA (U4 0 4096 8200 8208) []
 ·have hiK:i=K:=by omega
  subst hiK;have h2:=kg l x1.2 2 hl b1 oM;have b2:=KG l x1.2 2 b1;generalize (nx l x1.2 2).2=a2 at h2 b2;generalize oneB l x1.2 2=o at h2;refine XE.mp (fun _ _=>C1.draw 0 l x1.2 _ h2 rfl rfl rfl) ?_;refine sW ?_;refine XE.brB (fun h3=>?_) (fun h3=>?_)
  ·refine XE.fin (⟨nm,Zy i⟩,a2) ⟨⟨rfl,(zp2 hnm hK3).1,by rw[hkl];omega⟩,b2⟩ fun e ⟨_,hst⟩=>?_;have hkli:=hkl i;refine⟨hkl i,?_⟩;exact .oA (U1 0) [8200]
  ·refine XE.loopF mixm [8] (fun y:List Nat×Nat=>y.1.length≤i∧(∀ x∈y.1,x=1∨x=2)∧y.2≤l.length) (fun y=>[(8,vI y.1.length)]) (fun y=>[(0,oC l y.2),aR 4096 2 [cdlT default],aR 8200 2 ((lefL (Zy i) 0 y.1).map codT),aR 8208 2 [.agg [vS nm,.asl 8200 (lefL (Zy i) 0 y.1).length]]]) (fun y=>i-y.1.length) ([],a2) ⟨sMp,sMp,b2⟩ (fun e ⟨_,hst⟩=>?_) fun T2 y hy ih2=>?_
   ·have hkli:=hkl i;simp only[lefL];refine .of (U4 0 4096 8200 8208) [] rfl (by first | rfl | (rw[hst];rfl)) ?_ ?_
    all_goals (try simp only[tL,simprocAttr,By,List.map_cons,List.map_nil,BW,Cy,hkl])
    all_goals (try (exact clA))
   obtain⟨ns,a3⟩:=y;obtain⟨y1,y2,y3⟩:=hy;dsimp only at y1 y2 y3;have hll:=qU9 ns (Zy i) 0 y2;rw[hkl] at hll;simp only[tZ,↓uU,simprocAttr,AZ,Ay];refine XE.brN (fun h4=>?_) (fun h4=>?_)
   ·have h5:=zz l a3 1 2 hl y3 oM oM;have r5:=ka l a3 (2-1+1) oM;have b5:=KG l a3 (2-1+1) y3;generalize nx l a3 (2-1+1)=x5 at h5 r5 b5;obtain⟨M,hM⟩:=AJ (show 0≤1+x5.1 by omega);rw[hM] at h5;have hsn:=qD8 ns (Zy i) 0 M;rw[Nat.zero_add] at hsn;refine XE.mp (fun _ _=>C1.draw 0 l a3 _ h5 rfl rfl rfl) ?_;refine sW ?_;generalize lefL (Zy i) 0 ns=cs at hll hsn ⊢
    refine XE.loopF mixm [9] (fun z:Nat×List Cod=>addN ns.length z.1 z.2=addN ns.length M cs∧z.2.length+z.1=cs.length+M) (fun z=>[(9,vI z.1)]) (fun z=>[(0,oC l x5.2),aR 4096 2 [cdlT default],aR 8200 2 (z.2.map codT),aR 8208 2 [.agg [vS nm,.asl 8200 z.2.length]]]) (fun z=>z.1) (M,cs) ⟨rfl,rfl⟩ (fun e ⟨_,hst⟩=>?_) fun T3 z hz ih3=>?_
    ·exact .oA (U4 0 4096 8200 8208) []
    obtain⟨k,ds⟩:=z;obtain⟨z1,z2⟩:=hz;dsimp only at z1 z2;simp only[tZ,↓uU,simprocAttr,AZ,Ay];refine XE.brN (fun h6=>?_) (fun h6=>?_)
    ·have hwn:=qg (i:=ns.length) oM;have hwk:=jM (i:=k) oM oM;have hw1:IntKind.i64.wrap (1+(ns.length:Int))=1+(ns.length:Int):=AK _ oM;refine XE.mp (fun _ _=>C1.im (qU7 ds.length oM) rF rF) ?_;simp only[tZ,↓uU,simprocAttr,hwk,hw1];refine XE.sd (show 1+1≤9223372036854775807 by omega) (XE.sd oM (XE.sd kR ?_));refine XE.next ih3 (k-1,addL ds ns.length) ⟨?_,by dsimp only;rw[addL,AW];simp;omega⟩ (by dsimp only;omega) fun e ⟨_,hst⟩=>?_
     ·dsimp only;rw[← z1];obtain⟨j,rfl⟩:∃ j,k=j+1:=⟨k-1,oM⟩
      rfl
     ·rw[qU6];have e1:addL ds ns.length=ds++[⟨⟨#[108,dgt ds.length]⟩,1+(ns.length:Int)⟩]:=rfl;rw[e1];exact .oA (U4 0 4096 8200 8208) []
    ·have hk0:k=0:=by omega
     subst hk0;have hwn:=qg (i:=ns.length) oM;rw[addN,← hsn] at z1;simp only[tZ,↓uU,simprocAttr,hwn];refine XE.next ih2 (ns++[M],x5.2) ⟨by simp;omega,fun x hx=>?_,b5⟩ (by simp;omega) fun e ⟨_,hst⟩=>?_
     ·rcases Dz.1 hx with hx | hx
      ·exact y2 x hx
      ·rw[Ey.1 hx];omega
     ·simp only[z1,AW,CJ,Cw];rw[← z1];exact .oA (U4 0 4096 8200 8208) []
   ·have hni:ns.length=i:=by omega
    have hok:=(zp2 hnm hK3).2 ns hni y2;refine XE.fin (⟨nm,lefL (Zy i) 0 ns⟩,a3) ⟨⟨rfl,hok,by dsimp only;omega⟩,y3⟩ fun e ⟨_,hst⟩=>?_;exact .oA (U1 0) [8200]
end Go.Proofs
