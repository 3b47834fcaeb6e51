/- A part of the proof: trees of Go values, short forms, contracts. -/
import Derived.WalkKit
import Derived.Still
import Derived.MapKept
import GoSem.Builtin.Cap
import Derived.Laws.Externs
import GoSem.Extern.SlicesOverlaps
import Derived.Carry
import Derived.ProofKit
import Derived.OpenShut
import Derived.HandedShaped
import Derived.Lay
import Derived.LaidLaws
import Derived.MakeChecks
import Derived.SevenTiedAt
import Derived.Test.YtnfagfikoblhfaaGreatDoorChecked
import Derived.Test.YtnfagfikoblhfaaGreatDoorK23
set_option linter.unusedSimpArgs false
set_option linter.unusedVariables false
namespace Go.Proofs
open Go Go.TL
set_option maxRecDepth 4000
set_option maxHeartbeats 8000000
open So
theorem SrcOk.smx {s:Src} (h:SrcOk s):jE3 s:=⟨(qO h.sch).sm,fun r hr=>by
 have h1:=(qy4 (h.rows r hr)).2.1;have h2:=(qO h.sch).nc;omega⟩
structure TwoOk (a b:Ext):Prop where
 pa:a.proj=b.proj
 pk:a.picks=b.picks
 oa:ExtOk a
 ob:ExtOk b
 sa:ExtSm a
 sb:ExtSm b
 na:a.rows.length≤200
 nb:b.rows.length≤200
theorem TwoOk.symm {a b:Ext} (h:TwoOk a b):TwoOk b a:=⟨h.pa.symm,h.pk.symm,h.ob,h.oa,h.sb,h.sa,h.nb,h.na⟩
theorem zX5 (s:Src) (l:List Pk) (k:Int):∀ (m A:List (List Int)),AscR A→(∀ r∈A,r.length=l.length+1)→AscR (m.foldl (qG6 s l k) A)∧(∀ r∈m.foldl (qG6 s l k) A,r.length=l.length+1)∧(m.foldl (qG6 s l k) A).length≤A.length+m.length
 | [],A,h1,h2=>⟨h1,h2,by simp⟩
 | r::m,A,h1,h2=>by
   obtain⟨k1,k2,k3⟩:=zX5 s l k m (qG6 s l k A r) (zB9 h1) (fun x hx=>by
    rcases (zC0 h1).1 hx with e | ⟨hx,_⟩
    ·rw[e];simp [rowX]
    ·exact h2 x hx)
   have h3:=jh7 A (rowX s l k r);refine⟨k1,k2,?_⟩;have h4:(qG6 s l k A r).length≤A.length+1:=h3;rw[Dw,CJ];omega
theorem jj4 {s:Src} (h:SrcOk s) (d:Dcl):(ownR s d).length≤200:=by
 have:=h.nr;unfold ownR;split
 ·simp
 ·exact FZ (Fx _ _) h.nr
end Go.Proofs
namespace Go.Proofs
open Go Go.TL
set_option maxRecDepth 4000
set_option maxHeartbeats 8000000
open So
end Go.Proofs
namespace Go.Proofs
open Go Go.TL
set_option maxRecDepth 4000
set_option maxHeartbeats 8000000
open So
end Go.Proofs
namespace Go.Proofs
open Go Go.TL
set_option maxRecDepth 4000
set_option maxHeartbeats 8000000
open So
end Go.Proofs
namespace Go.Proofs
open Go Go.TL
set_option maxRecDepth 4000
set_option maxHeartbeats 8000000
open So
theorem jH0 {k n:Int} (hk:0≤k∧k<1152921504606846976) (hn:0≤n∧n<1048576):0≤keyI k n∧idI k (keyI k n)=n:=by
 have h1:Jj k n=true:=by simp [Jj];omega
 have h2:=Ws (s:=k) (Wt hn) 8;have h3:=zP5 h2;have h4:keyI k n=tie (fwd k 8 (cut n)):=by rw[keyI,Aj h1]
 have h5:Jj k (keyI k n)=true:=by rw[h4];simp [Jj];omega
 refine⟨by omega,?_⟩;rw[idI,Aj h5,h4,kb6 h2,jE4 (Wt hn),kb7]
theorem kd5 {k n m:Int} (hk:0≤k∧k<1152921504606846976) (hn:0≤n∧n<1048576) (hm:0≤m∧m<1048576) (h:keyI k n=keyI k m):n=m:=by
 have h1:=(jH0 hk hn).2;have h2:=(jH0 hk hm).2;rw[← h1,← h2,h]
theorem zQ7 (s:Src) (l:List Pk) (k:Int):∀ (m A:List (List Int)),AscR A→(m.Pairwise fun a b=>keyI k (hd a)≠keyI k (hd b))→(∀ r∈m,∀ x∈A,hd x≠keyI k (hd r))→
 ∀ x,x∈m.foldl (qG6 s l k) A↔x∈A∨∃ r∈m,x=rowX s l k r
 | [],A,_,_,_,x=>by simp
 | r::m,A,h1,h2,h3,x=>by
   obtain⟨h4,h5⟩:=List.pairwise_cons.1 h2;have hm:∀ y,y∈qG6 s l k A r↔y=rowX s l k r∨y∈A:=fun y=>by
    show y∈putR A (rowX s l k r)↔_;rw[zC0 h1];constructor
    ·rintro (a | ⟨a,_⟩)
     ·exact .inl a
     ·exact .inr a
    ·rintro (a | a)
     ·exact .inl a
     ·exact .inr ⟨a,h3 r (by simp) y a⟩
   rw[Dw,zQ7 s l k m (qG6 s l k A r) (zB9 h1) h5 (fun q hq y hy=>by
    rcases (hm y).1 hy with e | hy
    ·rw[e];exact h4 q hq
    ·exact h3 q (CQ _ hq) y hy),hm]
   constructor
   ·rintro ((a | a) | ⟨q,hq,a⟩)
    ·exact .inr ⟨r,by simp,a⟩
    ·exact .inl a
    ·exact .inr ⟨q,CQ _ hq,a⟩
   ·rintro (a | ⟨q,hq,a⟩)
    ·exact .inl (.inr a)
    ·rcases Ck.1 hq with rfl | hq
     ·exact .inl (.inl a)
     ·exact .inr ⟨q,hq,a⟩
theorem zi1 {s:Src} {d:Dcl} (h:SrcOk s) (hd0:dclE s.sch d=0) (r:List Int):r∈ownR s d↔r∈s.rows∧ownP s d r=true:=by
 unfold ownR;rw[Aq (by rw[qy9.2 h,hd0];simp),Fz]
theorem jH1 {s:Src} {d:Dcl} {k:Int} (h:SrcOk s) (hk:0≤k∧k<1152921504606846976):(ownR s d).Pairwise fun a b=>keyI k (hd a)≠keyI k (hd b):=by
 unfold ownR;split
 ·exact List.Pairwise.nil
 ·refine List.Pairwise.filter _ ?_;refine List.Pairwise.imp_of_mem ?_ h.asc;intro a b ha hb hab e;have h1:=jn3 (h.rows a ha);have h2:=jn3 (h.rows b hb);have:=kd5 hk (by omega) (by omega) e;omega
theorem qq5 {s:Src} {d:Dcl} {l:List Pk} {k:Int} (h:SrcOk s) (hd0:dclE s.sch d=0) (hk:0≤k∧k<1152921504606846976) (x:List Int) :
 x∈yr s d l k↔∃ r∈s.rows,ownP s d r=true∧x=rowX s l k r:=by
 unfold yr;rw[zQ7 s l k _ [] List.Pairwise.nil (jH1 h hk) (by simp)];constructor
 ·rintro (a | ⟨r,hr,e⟩)
  ·simp at a
  ·obtain⟨h1,h2⟩:=(zi1 h hd0 r).1 hr;exact⟨r,h1,h2,e⟩
 ·rintro ⟨r,h1,h2,e⟩;exact .inr ⟨r,(zi1 h hd0 r).2 ⟨h1,h2⟩,e⟩
end Go.Proofs
namespace Go.Proofs
open Go Go.TL
set_option maxRecDepth 4000
set_option maxHeartbeats 8000000
end Go.Proofs
namespace Go.Proofs
open Go Go.TL
set_option maxRecDepth 4000
set_option maxHeartbeats 8000000
open So
end Go.Proofs
namespace Go.Proofs
open Go Go.TL
set_option maxRecDepth 4000
set_option maxHeartbeats 8000000
theorem SrcOk.rw {s:Src} (h:SrcOk s):RwId s.rows:=⟨h.asc,fun r hr=>YK (h.rows r hr),fun r hr=>jn3 (h.rows r hr),by have:=h.nr;omega⟩
end Go.Proofs
namespace Go.Proofs
open Go Go.TL
set_option maxRecDepth 4000
set_option maxHeartbeats 8000000
end Go.Proofs
namespace Go.Proofs
open Go Go.TL
set_option maxRecDepth 4000
set_option maxHeartbeats 8000000
end Go.Proofs
namespace Go.Proofs
open Go Go.TL
set_option maxRecDepth 4000
set_option maxHeartbeats 8000000
end Go.Proofs
namespace Go.Proofs
open Go Go.TL
set_option maxRecDepth 4000
set_option maxHeartbeats 8000000
end Go.Proofs
namespace Go.Proofs
open Go Go.TL
set_option maxRecDepth 4000
set_option maxHeartbeats 8000000
open So
theorem jH2 {xs:List (List Int)} {i:Nat} (h:i<xs.length):(xs.map vIs).getD i .junk=vIs (gd xs i):=by rw[zt7 h];exact qe h
theorem kd6 (x y:List Int):repl (vIs x) 0 (vIs y)=vIs y:=rfl
theorem kd7 (x:List Int):(vIs x).cells.getD 0 .junk=vIs x:=rfl
theorem kk0 (xs:List (List Int)) (i:Nat) (v:List Int):(xs.map vIs).set i (vIs v)=(xs.set i v).map vIs:=List.map_set.symm
theorem kk1 (xs:List (List Int)) (i j:Nat):((xs.set i (gd xs j)).set j (gd xs i))=swp xs i j:=rfl
theorem gd_mem {xs:List (List Int)} {i:Nat} (h:i<xs.length):gd xs i∈xs:=by rw[zt7 h];exact AX h
section
variable (cv:List Int→List Int→Int) (P:List Int→Prop) (f:FuncId) (hf:∀ x y,P x→P y→Spc Tryz.prog f [vIs x,vIs y] [] (vI (cv x y)) [])
abbrev ltV (x y:List Int):Bool:=decide (cv x y<0)
include hf in
theorem Qn (xs:List (List Int)) (hP:∀ x∈xs,P x) (a b:Nat) (hab:a≤b) (hb:b≤xs.length) (hl:xs.length<4611686018427387904) :
 Spc Tryz.prog zr [.asl 0 xs.length,vI a,vI b,.clo f []] [(0,.arr 1 (xs.map vIs) false)] (.tup []) [(0,.arr 1 ((insS (ltV cv) xs a b).map vIs) false)]:=by
 have hw:=qk (i:=a) (by omega);refine qd yV mixm (by simp) fun e _ hst=>qh ?_;unfold zp;simp only[tZ,↓un_u,simprocAttr,hw];refine qw mixm (α:=List (List Int)×Nat) [8] (fun q=>q.1.length=xs.length∧a+1≤q.2∧(q.2≤b∨q.2=a+1)∧insF (ltV cv) a (b-q.2) q.2 q.1=insS (ltV cv) xs a b∧∀ x∈q.1,P x) (fun q=>[(8,vI q.2)]) (fun q=>[(0,.arr 1 (q.1.map vIs) false)]) (fun q=>b-q.2) (xs,a+1) ⟨rfl,BZ _,.inr rfl,rfl,hP⟩ ?_ fun q hq=>?_
 ·exact .oA [(0,some 0)] []
 obtain⟨ys,i⟩:=q;obtain⟨h1,h2,h3,h4,hPy⟩:=hq;dsimp only at h1 h2 h3 h4 hPy;simp only[tZ,↓un_u,simprocAttr,AZ,Ay];refine⟨fun h5=>?_,fun h5=>?_⟩
 ·have hi2:i<b:=by omega
  rw[show b-i=(b-(i+1))+1 by omega,insF] at h4;refine qw mixm (α:=List (List Int)×Nat) [9] (fun q=>q.1.length=xs.length∧a≤q.2∧q.2≤i∧insJ (ltV cv) a q.2 q.1=insJ (ltV cv) a i ys∧∀ x∈q.1,P x) (fun q=>[(9,vI q.2)]) (fun q=>[(0,.arr 1 (q.1.map vIs) false)]) (fun q=>q.2) (ys,i) ⟨h1,by omega,BZ _,rfl,hPy⟩ ?_ fun q hq=>?_
  ·exact .oA [(0,some 0)] []
  obtain⟨zs,j⟩:=q;obtain⟨g1,g2,g3,g4,hPz⟩:=hq;dsimp only at g1 g2 g3 g4 hPz;by_cases hj:a<j
  ·obtain⟨j,rfl⟩:∃ k,j=k+1:=⟨j-1,by omega⟩;have hwj:IntKind.i64.wrap (((j+1:Nat):Int)-1)=(j:Int):=by rw[AK _ (by omega)];omega
   have hd:decide (((j+1:Nat):Int)>a)=true:=by simp;omega
   have hc:=hf (gd zs (j+1)) (gd zs j) (hPz _ (gd_mem (by omega))) (hPz _ (gd_mem (by omega)));simp only[tZ,↓un_u,simprocAttr,hwj,hd,Ax,jH2 (show j<zs.length by omega),jH2 (show j+1<zs.length by omega)];refine⟨⟨g1,by omega,by omega⟩,⟨g1,by omega⟩,⟨g1,by omega,by omega⟩,⟨g1,by omega⟩,?_⟩;refine C2.one (by trivial) (C1.im hc (by rfl) (by rfl) ?_);have hsl:(zs.set (j+1) (gd zs j)).length=zs.length:=Fw;simp only[tZ,↓un_u,simprocAttr,hwj,Ax,jH2 (show j<zs.length by omega),jH2 (show j+1<zs.length by omega),kd6,kd7,kk0,jH2 (show j<(zs.set (j+1) (gd zs j)).length by omega),kk1];have hin:insJ (ltV cv) a (j+1) zs=if a<j+1∧ltV cv (gd zs (j+1)) (gd zs j)=true then insJ (ltV cv) a j (swp zs (j+1) j) else zs:=rfl
   refine⟨by kernel_rfl,fun h6=>?_,fun h6=>?_⟩
   ·refine⟨⟨g1,by omega,by omega⟩,⟨g1,by omega⟩,⟨g1,by omega,by omega⟩,⟨g1,by omega⟩,⟨g1,by omega,by omega⟩,⟨g1,by omega⟩,⟨by omega,by omega,by omega⟩,⟨by omega,by omega⟩,by kernel_rfl,(swp zs (j+1) j,j),⟨by dsimp only;rw[zx3];exact g1,by dsimp only;omega,by dsimp only;omega,?_,fun x hx=>hPz x ((jg4 (by omega) (by omega)).mem_iff.1 hx)⟩,by dsimp only;omega,?_⟩
    ·rw[← g4,hin,Aj ⟨hj,h6⟩]
    ·exact .oA [(0,some 0)] []
   ·rw[hin,Aq (fun e=>by have e2:=e.2;unfold ltV at e2;rw[h6] at e2;cases e2)] at g4;have hwi:=qk (i:=i) (by omega);refine⟨(zs,i+1),⟨g1,by dsimp only;omega,by dsimp only;omega,?_,hPz⟩,by dsimp only;omega,?_⟩
    ·dsimp only;rw[g4];exact h4
    ·rw[hwi];exact .oA [(0,some 0)] []
  ·have hd:decide ((j:Int)>a)=false:=by simp;omega
   have hwi:=qk (i:=i) (by omega);have hin:insJ (ltV cv) a j zs=zs:=by
    cases j with
    | zero=>rfl
    | succ j=>unfold insJ;rw[Aq (fun e=>hj e.1)]
   rw[hin] at g4;simp only[tZ,↓un_u,simprocAttr,hd,hwi];refine C2.no (fun h=>h) ?_;simp only[tZ,↓un_u,simprocAttr,hwi];refine⟨by kernel_rfl,(zs,i+1),⟨g1,by dsimp only;omega,by dsimp only;omega,?_,hPz⟩,by dsimp only;omega,?_⟩
   ·dsimp only;rw[g4];exact h4
   ·exact .oA [(0,some 0)] []
 ·rw[show b-i=0 by omega,insF] at h4;rw[← h4];exact .oA [(0,some 0)] []
theorem jX7 {st:Sto} {B:List Nat} (n:Nat) (ts:List T) (h:imAL ts=true):ltAs st [(0,some 0)] B (.asl 0 n::ts) (.asl 0 n::ts):=⟨by simp [ltA,ltC,ltC0,TL.get],qv1 h⟩
include hf in
theorem qz7 (xs:List (List Int)) (hP:∀ x∈xs,P x) (lim:Nat) (hl:xs.length≤12) :
 Spc Tryz.prog zj [.asl 0 xs.length,vI 0,vI xs.length,vI lim,.clo f []] [(0,.arr 1 (xs.map vIs) false)] (.tup []) [(0,.arr 1 ((insS (ltV cv) xs 0 xs.length).map vIs) false)]:=by
 have hw1:IntKind.i64.wrap ((xs.length:Int)-0)=(xs.length:Int):=by rw[AK _ (by omega)];omega
 have hin:=Qn cv P f hf xs hP 0 xs.length (by omega) (by omega) (by omega);refine KG [11,16,18] JH mixm (by simp) fun e _ hst=>qh ?_;unfold zR;simp only[qb9,List.contains_cons,List.contains_nil,Nat.reduceBEq,Bool.or_false,Bool.or_true,Bool.true_or,Bool.false_or,cond_true,cond_false];refine sW ?_;refine qw mixm (α:=Unit) [1,2,3,10,11] (fun _=>True) (fun _=>[(1,vI 0),(2,vI xs.length),(3,vI lim),(10,vB true),(11,vB true)]) (fun _=>[(0,.arr 1 (xs.map vIs) false)]) (fun _=>0) () trivial ?_ fun q hq=>?_
 ·exact .oA [(0,some 0)] []
 simp only[tZ,↓un_u,simprocAttr,AZ,Ay,hw1];refine⟨fun h8=>?_,fun h8=>absurd (show (xs.length:Int)≤12 by omega) h8⟩;refine C1.upd 0 1 _ _ hin (by rfl) (by apply qH;intro _;exact⟨rfl,rfl⟩) (by apply qH;intro _;exact⟨rfl,rfl⟩) (jX7 _ _ (by rfl)) (by rfl) ?_;refine sW ?_;exact .oA [(0,some 0)] []
include hf in
theorem qi9 (xs:List (List Int)) (hP:∀ x∈xs,P x) (hl:xs.length≤12):∃ ys,(ys.Perm xs∧(SWOrd (ltV cv)→Srt (ltV cv) ys 0 xs.length))∧
 Spc Tryz.prog kN [.asl 0 xs.length,.clo f []] [(0,.arr 1 (xs.map vIs) false)] (.tup []) [(0,.arr 1 (ys.map vIs) false)]:=by
 obtain⟨lim,hlim,hs⟩:=zi0 xs.length (by omega);refine⟨insS (ltV cv) xs 0 xs.length,⟨(ka8 (ltV cv) xs (Nat.zero_le _) (BZ _)).perm,fun ho=>jN3 ho xs (Nat.zero_le _) (BZ _)⟩,?_⟩;have hu:IntKind.u64.wrap (xs.length:Int)=(xs.length:Int):=by rw[IntKind.wrap_u64];omega
 refine qd qe2 mixm (by simp) fun e _ hst=>qh ?_;unfold kB;simp only[tZ,↓un_u,simprocAttr,hu];refine C1.im hs (by rfl) (by rfl) ?_;refine sW ?_;refine C1.upd 0 1 _ _ (qz7 cv P f hf xs hP lim hl) (by rfl) (by apply qH;intro _;exact⟨rfl,rfl⟩) (by apply qH;intro _;exact⟨rfl,rfl⟩) (jX7 _ _ (by rfl)) (by rfl) ?_;refine sW ?_;exact .oA [(0,some 0)] []
end
end Go.Proofs
namespace Go.Proofs
open Go Go.TL
set_option maxRecDepth 4000
set_option maxHeartbeats 8000000
open So
def bidV (x y:List Int):Int:=hd x-hd y
theorem jH3 (x y:List Int):ltV bidV x y=decide (hd x<hd y):=by
 unfold ltV bidV;exact decide_eq_decide.2 (by omega)
theorem kd8:SWOrd (ltV bidV):=by
 refine⟨fun x y h=>?_,fun x y z h1 h2=>?_⟩
 ·rw[jH3] at h ⊢
  have:=of_decide_eq_true h;exact Cq (by omega)
 ·rw[jH3] at h1 h2 ⊢
  have k1:=of_decide_eq_false h1;have k2:=of_decide_eq_false h2;exact Cq (by omega)
theorem kd9 {ys:List (List Int)} (h:Srt (ltV bidV) ys 0 ys.length) (hn:∀ i,0<i→i<ys.length→hd (ys.getD i default)≠hd (ys.getD (i-1) default)):AscR ys:=by
 refine jn2 (f:=hd) fun i h0 hi=>?_;have h1:=h (i-1) i (by omega) (by omega) hi;have h2:=hn i h0 hi;have e1:gd ys i=ys.getD i default:=rfl;have e2:gd ys (i-1)=ys.getD (i-1) default:=rfl;unfold lew at h1;rw[e1,e2,jH3] at h1;have:=of_decide_eq_false h1;omega
end Go.Proofs
namespace Go.Proofs
open Go Go.TL
set_option maxRecDepth 4000
set_option maxHeartbeats 8000000
open So
theorem jj5 {s:Sch} {d:Dcl} (h:dclE s d=0):chkC s d.coh=0∧nodE s d.coh=0:=by
 have h1:=(qn3 h).2.2.2.1;exact⟨h1,(qy7 h1).2.2.2⟩
theorem ke0 {s:Src} {d:Dcl} (h:SrcOk s) (hd0:dclE s.sch d=0) {r:List Int} (hr:r∈s.rows):(inS d.smp (hd r)&&(evC s.sch r d.coh==1))=ownP s d r:=by
 have h1:=(jj5 hd0).1;have h2:=h.rows r hr;rw[ownP,kb2,Aq (by omega),Bool.and_comm]
theorem qo4 (s:Src) (d:Dcl) (h:SrcOk s) (hd0:dclE s.sch d=0):Spc Tryz.prog Qw [srcT s,dclT d] [] (vRw (s.rows.filter (ownP s d))) []:=by
 have hok:=h;have hrp:=hok.rowp;have hnr:=hok.nr;have hn:=(jj5 hd0).2;have hsc:=qO hok.sch;refine qd qS2 mixm (by simp) fun e _ hst=>qh ?_;unfold JA;refine sW ?_;refine qw mixm (α:=Nat) [5,11] (fun i=>i≤s.rows.length) (fun i=>[(5,.asl 1 ((s.rows.take i).filter (ownP s d)).length),(11,vI i)]) (fun i=>[(4096,.arr 5 [srcT s] false),(4100,.arr 12 [dclT d] false),(1,.arr 1 (((s.rows.take i).filter (ownP s d)).map vIs) false)]) (fun i=>s.rows.length-i) 0 (by omega) ?_ fun i hi=>?_
 ·exact .oA [(4096,some 4096),(4100,some 4100),(1,none)] []
 have hfl:=Fx (ownP s d) (s.rows.take i);rw[Cz] at hfl;refine sD ?_;refine⟨fun h2=>?_,fun h2=>?_⟩
 ·have hi2:i<s.rows.length:=by omega
  have hwi:=qk (i:=i) (by omega);have hgi:=yl (hrp _ (AX hi2));have hrpi:=hrp _ (AX hi2);have hsp:(s.rows.take (i+1)).filter (ownP s d)=(s.rows.take i).filter (ownP s d)++if ownP s d s.rows[i]=true then [s.rows[i]] else []:=by
   rw[qM hi2,FY,List.filter_cons,List.filter_nil]
  have hP:(inS d.smp (hd s.rows[i])&&(evC s.sch s.rows[i] d.coh==1))=ownP s d s.rows[i]:=ke0 h hd0 (AX hi2);have hI:=zX4 d.smp (hd s.rows[i]);have hH:=qO6 s.sch hsc s.rows[i] (qy4 (hok.rows _ (AX hi2))).2.1 d.coh hn;simp only[tZ,↓un_u,simprocAttr,Ax,qe hi2,hgi];refine⟨by omega,by omega,?_⟩;refine C1.im hI (by rfl) (by rfl) ?_;simp only[tZ,↓un_u,simprocAttr,Ax,qe hi2,hgi];refine C2.im (fun _=>hH) (fun _=>rfl) (by rfl) ?_;refine sW ?_;rw[hP];refine⟨by kernel_rfl,fun h3=>?_,fun h3=>?_⟩
  ·rw[Aj h3] at hsp;have hspl:=congrArg List.length hsp;simp only[AW,CJ,Cw] at hspl;simp only[tZ,↓un_u,simprocAttr,Ax,qe hi2,hwi];refine⟨by omega,i+1,by omega,by omega,?_⟩;rw[hsp];exact .oA [(4096,some 4096),(4100,some 4100),(1,some 1)] []
  ·rw[Aq (by rw[h3];simp),CW] at hsp;simp only[tZ,↓un_u,simprocAttr,hwi];refine⟨i+1,by omega,by omega,?_⟩;rw[hsp];exact .oA [(4096,some 4096),(4100,some 4100),(1,some 1)] []
 ·have hil:i=s.rows.length:=by omega
  subst hil;rw[Bw];exact .oA [] [1]
theorem qW2 (s:Src) (d:Dcl) (hs:jE3 s):Spc Tryz.prog Jq [srcT s,dclT d] [] (vIs (ownS s d)) []:=by
 have hV:=qu2 s hs.1.2.1 hs.1.1 hs.2;refine qd qK4 mixm (by simp) fun e _ hst=>qh ?_;unfold ZD;refine sW ?_;refine C1.im hV (by rfl) (by rfl) ?_;refine sW ?_;refine C2.im (fun _=>WC s.sch hs.1 d) (fun _=>rfl) (by rfl) ?_;simp only[tZ,↓un_u,simprocAttr,tD,Bj,Aw,Bx,Bz];refine⟨fun h=>?_,fun h=>?_⟩
 ·rw[ownS,ownR,Aj h];exact .oA [] []
 have hok:=qy9.1 h.1;have hrp:=hok.rowp;have hnr:=hok.nr;have hO:=qo4 s d hok (by omega);rw[ownS,ownR,Aq (by grind)];have hfl:=Fx (ownP s d) s.rows;have hRp:∀ r∈s.rows.filter (ownP s d),0<r.length:=fun r hr=>hrp r (Fz.1 hr).1;generalize s.rows.filter (ownP s d)=R at hO hfl hRp ⊢
 refine C1.im hO (by rfl) (by rfl) ?_;refine sW ?_;refine qw mixm (α:=Nat) [5,22] (fun i=>i≤R.length) (fun i=>[(5,.asl 1 i),(22,vI i)]) (fun i=>[(1,.arr 1 (((R.take i).map hd).map vI) false)]) (fun i=>R.length-i) 0 (by omega) ?_ fun i hi=>?_
 ·exact .oA [(1,none)] []
 have htl:((R.take i).map hd).length=i:=by rw[BY,Cz];omega
 refine sD ?_;refine⟨fun h2=>?_,fun h2=>?_⟩
 ·have hi2:i<R.length:=by omega
  have hwi:=qk (i:=i) (by omega);have hgi:=yl (hRp _ (AX hi2));have hrpi:=hRp _ (AX hi2);have hsp:(R.take (i+1)).map hd=(R.take i).map hd++[hd R[i]]:=by rw[qM hi2,By];rfl
  have htl2:(R.take i).length=i:=by rw[Cz];omega
  simp only[tZ,↓un_u,simprocAttr,Ax,qe hi2,hgi,hwi];refine⟨by omega,by omega,by omega,i+1,by omega,by omega,?_⟩;rw[hsp];exact .oA [(1,some 1)] []
 ·have hil:i=R.length:=by omega
  subst hil;rw[Bw];exact .oA [] [1]
theorem kl7 {k:Int→Int} {ys:List (List Int)} (h:Srt (ltV bidV) ys 0 ys.length) (hn:(ys.map hd).Nodup):AscR ys:=by
 refine kd9 h fun i h0 hi e=>?_;have hi2:i<(ys.map hd).length:=by rw[BY];exact hi
 have hi3:i-1<(ys.map hd).length:=by omega
 have:=(DX.1 hn) (i-1) i hi3 hi2 (by omega);rw[Fj,Fj] at this;rw[qg hi,qg (by omega)] at e;exact this e.symm
def keyP (x:List Int):Prop:=0<x.length∧0≤hd x∧hd x≤1048575
theorem qO8 (x y:List Int) (hx:keyP x) (hy:keyP y):Spc Tryz.prog wI [vIs x,vIs y] [] (vI (bidV x y)) []:=by
 have h1:=yl hx.1;have h2:=yl hy.1;have a1:=hx.1;have a2:=hy.1;have hw:IntKind.i64.wrap (hd x-hd y)=hd x-hd y:=AK _ (by have:=hx.2;have:=hy.2;omega);refine qd qC7 mixm (by simp) fun e _ hst=>qh ?_;unfold QN;simp only[tZ,↓un_u,simprocAttr,h1,h2,hw];refine⟨by omega,by omega,by kernel_rfl,?_⟩;rw[show bidV x y=hd x-hd y from rfl];exact .oA [] []
theorem zX6 {k n:Int} (hk:0≤k∧k<1152921504606846976) (hn:0≤n∧n<1048576):0≤keyI k n∧keyI k n≤1048575:=by
 have h1:Jj k n=true:=by simp [Jj];omega
 have h3:=zP5 (Ws (s:=k) (Wt hn) 8);have h4:keyI k n=tie (fwd k 8 (cut n)):=by rw[keyI,Aj h1]
 omega
theorem key0 (k:Int):(keyI k 0<0)↔(k<0∨k≥1152921504606846976):=by
 by_cases h:0≤k∧k<1152921504606846976
 ·have:=zX6 h (n:=0) (by omega);omega
 ·have h1:Jj k 0=false:=by simp [Jj];omega
  rw[keyI,Aq (by rw[h1];simp)];omega
theorem jH4 {s:Src} {d:Dcl} {l:List Pk} {k:Int} (h:SrcOk s) (hd0:dclE s.sch d=0) (hk:0≤k∧k<1152921504606846976) {ys:List (List Int)} (hp:ys.Perm ((s.rows.filter (ownP s d)).map (rowX s l k))) (hso:Srt (ltV bidV) ys 0 ys.length):ys=yr s d l k:=by
 have hR:ownR s d=s.rows.filter (ownP s d):=by unfold ownR;rw[Aq (by rw[qy9.2 h,hd0];simp)]
 have hpw:=jH1 (d:=d) h hk;rw[hR] at hpw;have hnd:(ys.map hd).Nodup:=by
  rw[(hp.map hd).nodup_iff];rw[Gz];exact List.pairwise_map.2 (hpw.imp fun h=>h)
 have hA:=kl7 (k:=fun x=>x) hso hnd;obtain⟨q1,_,_⟩:=zX5 s l k (ownR s d) [] List.Pairwise.nil (by simp);refine jQ0 hA q1 fun x=>?_;rw[hp.mem_iff];have:=qq5 (l:=l) h hd0 hk x;rw[this,Cj];constructor
 ·rintro ⟨r,hr,rfl⟩;obtain⟨a,b⟩:=Fz.1 hr;exact⟨r,a,b,rfl⟩
 ·rintro ⟨r,a,b,rfl⟩;exact⟨r,Fz.2 ⟨a,b⟩,rfl⟩
end Go.Proofs
namespace Go.Proofs
open Go Go.TL
set_option maxRecDepth 4000
set_option maxHeartbeats 8000000
open So
theorem qo5 (s:Src) (d:Dcl) (l:List Pk) (k:Int) (hs:jE3 s) (h12:s.rows.length≤12) (hl:l.length<4611686018427387904):Spc Tryz.prog Qs [srcT s,dclT d,vPs l,vI k] [] (.tup [extT (qQ9 s d l k),vI (buildE s d l k)]) []:=by
 have hE:=(rfl:buildE s d l k=buildE s d l k);have hS:qQ9 s d l k=if buildE s d l k≠0 then ext0 else ⟨d.proj,s.ver,l,yr s d l k⟩:=rfl
 conv at hE=>rhs;unfold buildE
 have hbad:∀ v,v≠0→buildE s d l k=v→qQ9 s d l k=ext0∧buildE s d l k=v:=fun v h1 h2=>⟨by rw[hS,h2,Aj h1],h2⟩;have hgood:buildE s d l k=0→qQ9 s d l k=⟨d.proj,s.ver,l,yr s d l k⟩:=fun h=>by rw[hS,h,Aq (by simp)]
 clear hS;generalize buildE s d l k=E at hE hbad hgood ⊢
 generalize qQ9 s d l k=A at hbad hgood ⊢
 have hV:=qu2 s hs.1.2.1 hs.1.1 hs.2;refine KG [18] qR5 mixm (by simp) fun e _ hst=>qh ?_;unfold Jx;simp only[qb9,List.contains_cons,List.contains_nil,Nat.reduceBEq,Bool.or_false,Bool.or_true,Bool.true_or,Bool.false_or,cond_true,cond_false];refine sW ?_;refine C1.im hV (by rfl) (by rfl) ?_;simp only[tZ,↓un_u,simprocAttr,Bx,Bz];refine⟨fun h=>?_,fun h=>?_⟩
 ·obtain⟨a1,a2⟩:=hbad 13 (by decide) (by rw[hE,Aj h]);rw[a1,a2];exact .oA [] []
 rw[Aq (by rw[h];simp)] at hE;have hok:=qy9.1 h;refine C1.im (qW0 s.sch hs.1 d l hl) (by rfl) (by rfl) ?_;simp only[tZ,↓un_u,simprocAttr,Bj,Aw];refine⟨fun h2=>?_,fun h2=>?_⟩
 ·obtain⟨a1,a2⟩:=hbad _ h2 (by rw[hE,Aj h2]);rw[a1,a2];exact .oA [] []
 rw[Aq (by rw[h2];simp)] at hE;obtain⟨hd0,hp0⟩:=jO8 h2;refine C1.im (qn7 k 0) (by rfl) (by rfl) ?_;simp only[tZ,↓un_u,simprocAttr,tD,key0];refine⟨fun h3=>?_,fun h3=>?_⟩
 ·obtain⟨a1,a2⟩:=hbad 2 (by decide) (by rw[hE,Aj h3]);rw[a1,a2];exact .oA [] []
 rw[Aq h3] at hE;have hk:0≤k∧k<1152921504606846976:=by omega
 have a1:=hgood hE;rw[a1,hE];clear hbad hgood;have hpl:=zg4 hp0;obtain⟨_,hpk,_⟩:=Zd hp0;refine C1.im (Wx l (by omega)) (by rfl) (by rfl) ?_;have hO:=qo4 s d hok hd0;have hoR:∀ r∈s.rows.filter (ownP s d),r∈s.rows:=fun r hr=>(Fz.1 hr).1;have hol:(s.rows.filter (ownP s d)).length≤12:=FZ (Fx _ _) h12;have hBS:=fun ys=>jH4 (ys:=ys) (l:=l) hok hd0 hk;generalize s.rows.filter (ownP s d)=R at hO hoR hol hBS ⊢
 refine sW ?_;refine⟨by kernel_rfl,?_⟩;refine C1.im hO (by rfl) (by rfl) ?_;refine sW ?_;have hrX:∀ r∈R,0<r.length∧r.length=s.sch.cols.length∧keyP (rowX s l k r):=fun r hr=>by
  have h1:=hok.rows _ (hoR r hr);have h2:=jn3 h1;have h3:=zX6 (n:=hd r) hk (by omega);exact⟨YK h1,(qy4 h1).2.1,ji0 s l k r,h3⟩
 refine qw mixm (α:=Nat) [45] (fun i=>i≤R.length) (fun i=>[(45,vI i)]) (fun i=>[(4096,.arr 5 [srcT s] false),(4104,.arr 4 [extT ext0] false),(36892,.arr 4 [.agg [vS d.proj,vI s.ver,vPs l,.asl 1 i]] false),(1,.arr 1 (((R.take i).map (rowX s l k)).map vIs) false)]) (fun i=>R.length-i) 0 (by omega) ?_ fun i hi=>?_
 ·exact .oA [(4096,some 4096),(4104,some 4104),(36892,some 36892),(1,none)] []
 have htl:((R.take i).map (rowX s l k)).length=i:=by rw[BY,Cz];omega
 refine sD ?_;refine⟨fun h4=>?_,fun h4=>?_⟩
 ·have hi2:i<R.length:=by omega
  have hwi:=qk (i:=i) (by omega);have hrXs:(R.take (i+1)).map (rowX s l k)=(R.take i).map (rowX s l k)++[rowX s l k R[i]]:=by rw[qM hi2,By];rfl
  obtain⟨hrp,hrl,hrk⟩:=hrX _ (AX hi2);have hKey:=qn7 k (hd R[i]);have hgi:=yl hrp;have hX:rowX s l k R[i]=keyI k (hd R[i])::l.map fun p=>qu s.sch p.col p.lev (R[i].getD p.col.toNat 0):=rfl;simp only[tZ,↓un_u,simprocAttr,Ax,qe hi2];refine⟨by omega,?_⟩;generalize R[i]=r at hrXs hrp hrl hrk hKey hgi hX ⊢
  simp only[tZ,↓un_u,simprocAttr,hgi];refine⟨by omega,?_⟩;refine C1.im hKey (by rfl) (by rfl) ?_;refine sW ?_;refine qw mixm (α:=Nat) [14,57] (fun n=>n≤l.length) (fun n=>[(14,.asl 53268 (n+1)),(57,vI n)]) (fun n=>[(4096,.arr 5 [srcT s] false),(4104,.arr 4 [extT ext0] false),(36892,.arr 4 [.agg [vS d.proj,vI s.ver,vPs l,.asl 1 i]] false),(1,.arr 1 (((R.take i).map (rowX s l k)).map vIs) false),(53268,.arr 1 ((keyI k (hd r)::(l.take n).map fun p=>qu s.sch p.col p.lev (r.getD p.col.toNat 0)).map vI) false)]) (fun n=>l.length-n) 0 (by omega) ?_ fun n hn=>?_
  ·exact .oA [(4096,some 4096),(4104,some 4104),(36892,some 36892),(1,some 1),(53268,some 53268)] []
  have hnl:(l.take n).length=n:=by rw[Cz];omega
  refine sD ?_;refine⟨fun h5=>?_,fun h5=>?_⟩
  ·have hn2:n<l.length:=by omega
   have hwn:=qk (i:=n) (by omega);have hpn:=Jb (hpk _ (AX hn2));have hcl:l[n].col.toNat<r.length:=by omega
   have hgc:(r.map vI).getD l[n].col.toNat .junk=vI (r.getD l[n].col.toNat 0):=by rw[qe hcl,qg hcl]
   simp only[tZ,↓un_u,simprocAttr,Ax,qe hn2,hgc];refine⟨by omega,by omega,?_⟩;refine C1.im (zh0 s.sch hs.1 l[n].col l[n].lev _) (by rfl) (by rfl) ?_;simp only[tZ,↓un_u,simprocAttr,hwn];refine⟨⟨hnl,by omega⟩,by kernel_rfl,n+1,by omega,by omega,?_⟩;rw[qM hn2,By];exact .oA [(4096,some 4096),(4104,some 4104),(36892,some 36892),(1,some 1),(53268,some 53268)] []
  ·have hnl2:n=l.length:=by omega
   subst hnl2;rw[Bw,← List.map_cons (f:=vI),← hX];have hXl:(rowX s l k r).length=l.length+1:=by rw[rowX,CJ,BY]
   have htl2:(R.take i).length=i:=by rw[Cz];omega
   rw[← hXl];refine W_le [(2,vPs l),(3,vI k),(4,.ptr 4096 1 0 0),(8,.ptr 4104 1 0 0),(11,.ptr 36892 1 0 0),(14,vIs (rowX s l k r)),(43,vRw R),(44,vI R.length),(45,vI i)] [(4096,.arr 5 [srcT s] false),(4104,.arr 4 [extT ext0] false),(36892,.arr 4 [.agg [vS d.proj,vI s.ver,vPs l,.asl 1 i]] false),(1,.arr 1 (((R.take i).map (rowX s l k)).map vIs) false)] ?_ ?_
   ·exact .oA [(4096,some 4096),(4104,some 4104),(36892,some 36892),(1,some 1)] [53268]
   simp only[tZ,↓un_u,simprocAttr,hwi];refine⟨⟨htl2,by omega⟩,htl2,i+1,by omega,by omega,?_⟩;rw[hrXs,By];exact .oA [(4096,some 4096),(4104,some 4104),(36892,some 36892),(1,some 1)] []
 ·have hil:i=R.length:=by omega
  subst hil;rw[Bw];rw[Bw] at htl;obtain⟨ys,⟨hp,hso⟩,hSF⟩:=qi9 bidV keyP wI (fun x y hx hy=>qO8 x y hx hy) (R.map (rowX s l k)) (fun x hx=>by
   obtain⟨r,hr,rfl⟩:=Cj.1 hx;exact (hrX r hr).2.2) (by omega)
  have hso:=hso kd8;have hpl2:=hp.length_eq;rw[← hpl2] at hso;have hy:=hBS ys hp hso;rw[htl] at hSF;refine C1.upd 1 1 _ _ hSF (by rfl) (by apply qH;intro _;exact⟨rfl,rfl⟩) (by apply qH;intro _;exact⟨rfl,rfl⟩) ⟨by simp [ltA,ltC,ltC0,TL.get],qv1 (by rfl)⟩ (by rfl) ?_;refine sW ?_;have hyl:ys.length=R.length:=by rw[hpl2,BY]
  refine⟨hyl,?_⟩;rw[← hy,← hyl];exact .oA [] [1]
end Go.Proofs
namespace Go.Proofs
open Go Go.TL
set_option maxRecDepth 4000
set_option maxHeartbeats 8000000
def Qb (s:Sch) (q:Qst) (k:Nat) (lev:Int) (x y:Int):Prop:=qu s k lev x=qu s k lev y∧kl6 s q k x y=true
structure FirstV (s:Sch) (q:Qst) (k:Nat) (lev:Int) (x y:Int):Prop where
 hx:qS s k x=true
 hy:qS s k y=true
 lt:x<y
 qb:Qb s q k lev x y
 least:∀ x' y',qS s k x'=true→qS s k y'=true→x'<y'→Qb s q k lev x' y'→x<x'∨(x=x'∧y≤y')
structure LeastX (s:Sch) (q:Qst) (k:Nat) (lev:Int) (x:Int):Prop where
 lo:(qj s k).low<x
 hi:x≤(qj s k).high
 qb:Qb s q k lev (x-1) x
 least:∀ y,(qj s k).low<y→y<x→¬ Qb s q k lev (y-1) y
theorem zQ8 {s:Sch} {q:Qst} (h:qstE s q=0) {k:Nat} (hk:k<s.cols.length):mxl (yp s q) k=mxl (qI4 s q) k:=by
 rw[qq4 h,qX3 fun k=>WA _ _,Aj hk]
theorem jH5 {s:Sch} {d:Dcl} (h:dclE s d=0) {k:Nat} (hk:k<s.cols.length):mxl (kZ s d) k=mxl (zQ6 s d.qs) k:=by
 rw[qb5 h,qX3 fun k=>WA _ _,Aj hk]
end Go.Proofs
namespace Go.Proofs
open Go Go.TL
set_option maxRecDepth 4000
set_option maxHeartbeats 8000000
def qg9 (L:List Int) (f g:Int→Int) (v:Int):Int×Bool:=match L.filter (fun x=>f x==v) with
 | []=>(0,false)
 | x::r=>if (r.all fun y=>g y==g x)=true then (g x,true) else (0,false)
theorem zX7 {L:List Int} {f:Int→Int} {v:Int} {i:Nat} (h:i<L.length):(L.take (i+1)).filter (fun x=>f x==v)=(L.take i).filter (fun x=>f x==v)++if (f L[i]==v)=true then [L[i]] else []:=by
 rw[qM h,FY]
 congr 1
 split
 ·rename_i h2;rw[List.filter_cons_of_pos (p:=fun x=>f x==v) h2];rfl
 ·rename_i h2;rw[List.filter_cons_of_neg (p:=fun x=>f x==v) h2];rfl
def TcI (g:Int→Int) (M:List Int) (o:Int) (b:Bool):Prop:=(M=[]∧o=0∧b=false)∨∃ x r,M=x::r∧(∀ y∈r,g y=g x)∧o=g x∧b=true
theorem TcI.fin {L:List Int} {f g:Int→Int} {v o:Int} {b:Bool} (h:TcI g (L.filter fun x=>f x==v) o b):qg9 L f g v=(o,b):=by
 unfold qg9;rcases h with⟨h1,h2,h3⟩ | ⟨x,r,h1,h2,h3,h4⟩
 ·rw[h1,h2,h3]
 ·rw[h1,h3,h4];dsimp only;rw[Aj (Bk.2 fun y hy=>AY.2 (h2 y hy))]
theorem jn7 {L:List Int} {f g:Int→Int} {v:Int} {i:Nat} (h:i<L.length) {o:Int} (hI:TcI g ((L.take i).filter fun x=>f x==v) o true) (h1:(f L[i]==v)=true) (h2:g L[i]≠o):qg9 L f g v=(0,false):=by
 rcases hI with⟨_,_,h3⟩ | ⟨x,r,h3,h4,h5,_⟩
 ·cases h3
 ·have hL:L.filter (fun x=>f x==v)=x::(r++L[i]::(L.drop (i+1)).filter fun x=>f x==v):=by
   conv=>lhs;rw[← List.take_append_drop i L,FY,h3,zA9 h,List.filter_cons_of_pos (p:=fun x=>f x==v) h1]
   simp
  unfold qg9;rw[hL];dsimp only;rw[Aq];intro k;have:=Bk.1 k L[i] (by simp);rw[AY,← h5] at this;exact h2 this
theorem qO9 (l:CodL) (hl:lstE l=0) (a v b:Int):Spc Tryz.prog Zz [cdlT l,vI a,vI v,vI b] [] (.tup [vI (qg9 (atL l (zk l-1)) (fun x=>upC l x a) (fun x=>upC l x b) v).1,vB (qg9 (atL l (zk l-1)) (fun x=>upC l x a) (fun x=>upC l x b) v).2]) []:=by
 have hlv:=qn2 (l:=l);have hw:IntKind.i64.wrap (zk l-1)=zk l-1:=AK _ (by omega);have hLl:(atL l (zk l-1)).length≤60:=by
  obtain⟨_,d5,d6⟩:=zf hl;unfold atL;rw[Aq (by rw[hl];simp),BY];refine FZ (Fx _ _) ?_;rw[List.length_range];exact d6
 refine qd qE7 mixm (by simp) fun e _ hst=>qh ?_;unfold QX;refine sW ?_;refine C1.im (Jd l) (by rfl) (by rfl) ?_;simp only[tZ,↓un_u,simprocAttr,hw];refine C1.im (qq2 l (zk l-1)) (by rfl) (by rfl) ?_;generalize atL l (zk l-1)=L at hLl ⊢
 refine sW ?_;refine⟨by kernel_rfl,?_⟩;refine qw mixm (α:=Nat×Int×Bool) [10,11,21] (fun y=>y.1≤L.length∧TcI (fun x=>upC l x b) ((L.take y.1).filter fun x=>upC l x a==v) y.2.1 y.2.2) (fun y=>[(10,vI y.2.1),(11,vB y.2.2),(21,vI y.1)]) (fun y=>[(4096,.arr 2 [cdlT l] false)]) (fun y=>L.length-y.1) (0,0,false) ⟨by simp,.inl ⟨rfl,rfl,rfl⟩⟩ ?_ fun y hy=>?_
 ·exact .oA [(4096,some 4096)] []
 obtain⟨i,o,t⟩:=y;obtain⟨y1,y2⟩:=hy;dsimp only at y1 y2;refine sD ?_;refine⟨fun h3=>?_,fun h3=>?_⟩
 ·have hi2:i<L.length:=by omega
  have hwi:=qk (i:=i) (by omega);have hsp:=zX7 (f:=fun x=>upC l x a) (v:=v) hi2;have hbad:=fun e=>jn7 (f:=fun x=>upC l x a) (g:=fun x=>upC l x b) (v:=v) (o:=o) hi2 e;have sU:=fun c=>qb1 l L[i] c;simp only[tZ,↓un_u,simprocAttr,Ax,qe hi2];refine⟨by omega,?_⟩;refine C1.im (sU a) (by rfl) (by rfl) ?_;simp only[tZ,↓un_u,simprocAttr,Bj,Aw,hwi];generalize L[i]=x at hsp hbad sU ⊢
  refine⟨fun h4=>?_,fun h4=>?_⟩
  ·rw[Aq (by rw[AY];exact h4),CW] at hsp;refine⟨(i+1,o,t),⟨by dsimp only;omega,by dsimp only;rw[hsp];exact y2⟩,by dsimp only;omega,?_⟩;exact .oA [(4096,some 4096)] []
  ·rw[Aj (AY.2 h4)] at hsp;refine C1.im (sU b) (by rfl) (by rfl) ?_;simp only[tZ,↓un_u,simprocAttr,tD,Bj,Aw,hwi];refine⟨fun h5=>?_,fun h5=>?_⟩
   ·rw[h5.1] at y2;rw[hbad y2 (AY.2 h4) h5.2];exact .oA [] []
   ·refine⟨(i+1,upC l x b,true),⟨by dsimp only;omega,?_⟩,by dsimp only;omega,?_⟩
    ·dsimp only;rw[hsp];rcases y2 with⟨k1,k2,k3⟩ | ⟨z,r,k1,k2,k3,k4⟩
     ·exact .inr ⟨x,[],by rw[k1];rfl,by simp,rfl,rfl⟩
     ·right
      have hx:upC l x b=o:=by
       rw[k4] at h5;simpa using h5
      refine⟨z,r++[x],by rw[k1];rfl,fun y hy=>?_,by rw[hx,k3],rfl⟩;rcases Dz.1 hy with hy | hy
      ·exact k2 y hy
      ·rw[Ey.1 hy];dsimp only;rw[hx,k3]
    ·exact .oA [(4096,some 4096)] []
 ·have hil:i=L.length:=by omega
  subst hil;rw[Bw] at y2;rw[TcI.fin y2];exact .oA [] []
theorem qW3 (s:Sch) (hE:schE s=0) (k:Nat) (hk:k<s.cols.length) (h0:0<k) (h2:(qj s k).kind=2) (a v b:Int) (ha:0≤a∧a≤finI s k) (hb:0≤b∧b≤finI s k):Spc Tryz.prog wl [schT s,vI k,vI a,vI v,vI b] []
 (let r:=qg9 (qJ s k) (fun x=>upC (qK s k) x a) (fun x=>upC (qK s k) x b) v;.tup [vI (if r.2=true then r.1 else 0),vB r.2]) []:=by
 have hok:=qO hE;have hat:qj s k=s.cols[k]:=by rw[qj,qg hk]
 obtain⟨d1,d2⟩:=hok.cdl hk h2;have hls:qJ s k=atL (qK s k) (zk (qK s k)-1):=rfl;have hcd:qK s k=s.lists.getD (qj s k).list.toNat default:=rfl;have hkk:=(qZ (hok.cs k hk)).2.2.2.1 h2;have sT:=wE s hE k;have e1:decide (a<0)=false:=Cq (by omega);have e2:decide (a>finI s k)=false:=Cq (by omega);have e3:decide (b<0)=false:=Cq (by omega);have e4:decide (b>finI s k)=false:=Cq (by omega);rw[hls];have sC:=qO9 (qK s k) d2 a v b;generalize qg9 (atL (qK s k) (zk (qK s k)-1)) (fun x=>upC (qK s k) x a) (fun x=>upC (qK s k) x b) v=r at sC ⊢
 rw[hat] at d1 h2 hcd hkk;rw[hcd,qg d1] at sC;dsimp only;refine qd JE mixm (by simp) fun e _ hst=>qh ?_;unfold kF;refine sW ?_;refine C1.im sT (by rfl) (by rfl) ?_;simp only[tZ,↓un_u,simprocAttr,e1,e2,e3,e4,Ax,qe hk,AY,Ak];generalize s.cols[k]=x at d1 h2 hkk sC ⊢
 refine⟨by omega,fun _=>?_,fun h=>absurd h2 h⟩;simp only[tZ,↓un_u,simprocAttr,qe d1];refine⟨by omega,?_⟩;refine C1.im sC (by rfl) (by rfl) ?_;simp only[tZ,↓un_u,simprocAttr,Bx,Bz];refine⟨fun h=>?_,fun h=>?_⟩
 ·rw[h,Aq (by simp)];exact .oA [] []
 ·rw[h,Aj rfl];exact .oA [] []
theorem zQ9 {f:Nat→Int} {n:Nat} {p:Pk} (h:p∈canF f n):0<p.lev∧p.lev=f p.col.toNat∧0≤p.col∧p.col<n:=by
 obtain⟨k,k1,k2,rfl⟩:=Kw.1 h;exact⟨k2,rfl,by dsimp only;omega,by dsimp only;omega⟩
end Go.Proofs
namespace Go.Proofs
open Go Go.TL
set_option maxRecDepth 4000
set_option maxHeartbeats 8000000
open So
def qo6 (c:Col) (a v b:Int):Int×Bool:=
 if 0<a∧v=zz then ((if b=0 then 0 else v),c.opt)
 else if (Zl c a v).2.2=false then (0,false)
 else if b=0 then (0,true)
 else if a=0∧c.opt=true then (0,false)
 else (qA (Zl c a v).1 (qD c b)*qD c b,qA (Zl c a v).1 (qD c b)*qD c b==qA (Zl c a v).2.1 (qD c b)*qD c b)
theorem jH6 {c:Col} {lev v:Int} (h:lev=0∨(1≤qD c lev∧qD c lev≤1000000)) (hc : -1000000≤c.low∧c.low≤c.high∧c.high≤1000000) : -4000000≤(Zl c lev v).1∧(Zl c lev v).1≤4000000∧-4000000≤(Zl c lev v).2.1∧(Zl c lev v).2.1≤4000000:=by
 unfold Zl;split
 ·dsimp only;omega
 ·split
  ·dsimp only;omega
  ·dsimp only;omega
theorem qt5 (c:Col) (a v b:Int) (hc : -1000000≤c.low∧c.low≤c.high∧c.high≤1000000)
 (ha:a=0∨(1≤a∧a≤c.widths.length∧c.widths.length≤4∧1≤qD c a∧qD c a≤1000000))
 (hb:b=0∨(1≤b∧b≤c.widths.length∧c.widths.length≤4∧1≤qD c b∧qD c b≤1000000)) :
 Spc Tryz.prog wZ [colT c,vI a,vI v,vI b] [] (.tup [vI (qo6 c a v b).1,vB (qo6 c a v b).2]) []:=by
 have hm:zz = -1099511627776:=rfl;have hT:qo6 c a v b=if 0<a∧v=zz then ((if b=0 then 0 else v),c.opt)
  else if (Zl c a v).2.2=false then (0,false)
  else if b=0 then (0,true)
  else if a=0∧c.opt=true then (0,false)
  else (qA (Zl c a v).1 (qD c b)*qD c b,qA (Zl c a v).1 (qD c b)*qD c b==qA (Zl c a v).2.1 (qD c b)*qD c b):=rfl
 have hS:=qH9 c a v ha;have hr:=jH6 (v:=v) (show a=0∨(1≤qD c a∧qD c a≤1000000) by omega) hc;generalize Zl c a v=z at hT hS hr;obtain⟨lo,hi,ok⟩:=z;dsimp only at hT hS hr;rw[hT];by_cases h1:0<a∧v=zz
 ·rw[Aj h1];have q1:decide (a>0)=true:=Cx h1.1;have q2:(v == -1099511627776)=true:=AY.2 (h1.2.trans hm);refine qd Ji mixm (by simp) fun e _ hst=>qh ?_;unfold jG;simp only[tZ,↓un_u,simprocAttr,q1,q2,AY,Ak];refine⟨fun h=>?_,fun h=>?_⟩
  ·rw[Aj h];refine⟨by kernel_rfl,?_⟩;exact .oA [] []
  ·rw[Aq h];refine⟨by kernel_rfl,?_⟩;exact .oA [] []
 rw[Aq h1];have q1:(decide (a>0)&&(v == -1099511627776))=false:=by
  rw[Bool.eq_false_iff];intro k;rw[Bq,AZ,AY] at k;exact h1 k
 refine qd Ji mixm (by simp) fun e _ hst=>qh ?_;unfold jG;simp only[tZ,↓un_u,simprocAttr,q1];refine C1.im hS (by rfl) (by rfl) ?_;simp only[tZ,↓un_u,simprocAttr,Bx,Bz];refine⟨fun h2=>?_,fun h2=>⟨fun h3=>?_,fun h3=>⟨fun h4=>?_,fun h4=>?_⟩⟩⟩
 ·rw[Aj h2];exact .oA [] []
 ·rw[Aq (by rw[h2];simp),Aj (AY.1 h3)];exact .oA [] []
 ·rw[Bq,AY] at h4;rw[Aq (by rw[h2];simp),Aq (Ak.1 h3),Aj h4];exact .oA [] []
 ·have h5:¬ (a=0∧c.opt=true):=fun k=>by
   rw[← AY,← Bq,h4] at k;cases k
  obtain⟨l1,l2,l3,l4,l5⟩:=hb.resolve_left (Ak.1 h3);have hW:=Je c b ⟨l1,l2⟩ (by omega);have hD1:=wS lo (qD c b) (by omega) (by omega);have hD2:=wS hi (qD c b) (by omega) (by omega);rw[Aq (by rw[h2];simp),Aq (Ak.1 h3),Aq h5];generalize qD c b=w at hW hD1 hD2 l4 l5 ⊢
  refine C1.im hW (by rfl) (by rfl) ?_;refine sW ?_;refine C1.im hD1 (by rfl) (by rfl) ?_;refine sW ?_;refine C1.im hD1 (by rfl) (by rfl) ?_;refine sW ?_;refine C1.im hD2 (by rfl) (by rfl) ?_;refine sW ?_;exact .oA [] []
theorem jH7 {c:Col} (h:measE c=0) : -1000000≤c.low∧c.low≤c.high∧c.high≤1000000:=by
 unfold measE at h;split at h
 ·cases h
 ·rename_i h1;rw[qa7,qa7] at h1;omega
def qP0 (s:Sch) (c a v b:Int):Int×Bool:=
 if inB a 0 (finI s c)=false∨inB b 0 (finI s c)=false then (0,false)
 else
  let r:=if (qj s c.toNat).kind=2 then qg9 (qJ s c.toNat) (fun x=>upC (qK s c.toNat) x a) (fun x=>upC (qK s c.toNat) x b) v else qo6 (qj s c.toNat) a v b
  (if r.2=true then r.1 else 0,r.2)
theorem qo7 (s:Sch) (hE:schE s=0) (c a v b:Int):Spc Tryz.prog wl [schT s,vI c,vI a,vI v,vI b] [] (.tup [vI (qP0 s c a v b).1,vB (qP0 s c a v b).2]) []:=by
 have hok:=qO hE;by_cases hin:inB a 0 (finI s c)=false∨inB b 0 (finI s c)=false
 ·have hT:qP0 s c a v b=(0,false):=by rw[qP0,Aj hin]
  have hsm : -1≤finI s c:=by
   by_cases hc:1≤c∧c<s.cols.length
   ·obtain⟨i,rfl⟩:=AJ (show 0≤c by omega);have:=qo2 hE (k:=i) (by omega) (by omega);omega
   ·rw[finI,Aj (by omega)];omega
  rw[hT];have sT:=wE s hE c;refine qd JE mixm (by simp) fun e _ hst=>qh ?_;unfold kF;refine sW ?_;refine C1.im sT (by rfl) (by rfl) ?_;refine sD ?_;have hh:((a<0∨a>finI s c)∨b<0)∨b>finI s c:=by
   rw[qa7,qa7] at hin;omega
  refine⟨fun _=>?_,fun k=>absurd hh (by omega)⟩;exact .oA [] []
 ·have hA:inB a 0 (finI s c)=true:=by cases h:inB a 0 (finI s c) with
   | true=>rfl
   | false=>exact absurd (.inl h) hin
  have hB:inB b 0 (finI s c)=true:=by cases h:inB b 0 (finI s c) with
   | true=>rfl
   | false=>exact absurd (.inr h) hin
  rw[wB] at hA hB;obtain⟨_,c1,c2,hfin⟩:=yY (s:=s) (c:=c) (by omega);obtain⟨k,rfl⟩:=AJ (show 0≤c by omega);have hk:k<s.cols.length:=by omega
  have hT:qP0 s k a v b=(let r:=if (qj s k).kind=2 then qg9 (qJ s k) (fun x=>upC (qK s k) x a) (fun x=>upC (qK s k) x b) v else qo6 (qj s k) a v b
   (if r.2=true then r.1 else 0,r.2)):=by rw[qP0,Aq hin,Ax]
  by_cases h2:(qj s k).kind=2
  ·rw[hT,Aj h2];exact qW3 s hE k hk (by omega) h2 a v b hA hB
  ·rw[hT,Aq h2];have hat:qj s k=s.cols[k]:=by rw[qj,qg hk]
   have hkk:=qZ (hok.cs k hk);have h3:(qj s k).kind=3:=by have:=hkk.2.2.1 (by omega);omega
   have hm:=hkk.2.2.2.2 h3;have hwl : -1000000≤(qj s k).low∧(qj s k).low≤(qj s k).high∧(qj s k).high≤1000000:=jH7 hm;have hf:finI s k=(qj s k).widths.length:=by rw[finI,Aq (by omega),Ax,Aq h2]
   have hw:=fun lev (h1:0≤lev∧lev≤finI s k)=>show lev=0∨(1≤lev∧lev≤(qj s k).widths.length∧(qj s k).widths.length≤4∧1≤qD (qj s k) lev∧qD (qj s k) lev≤1000000) by
    rcases Int.lt_or_le 0 lev with q | q
    ·right
     obtain⟨w1,w2,_,w4,_⟩:=hok.wid hk (by omega) h2 (lev:=lev) (by omega);exact⟨by omega,by omega,w4,w1,w2⟩
    ·left;omega
   have sM:=qt5 (qj s k) a v b hwl (hw a hA) (hw b hB);have sT:=wE s hE k;have e1:decide (a<0)=false:=Cq (by omega);have e2:decide (a>finI s k)=false:=Cq (by omega);have e3:decide (b<0)=false:=Cq (by omega);have e4:decide (b>finI s k)=false:=Cq (by omega);generalize qo6 (qj s k) a v b=r at sM ⊢
   rw[hat] at sM h2;dsimp only;refine qd JE mixm (by simp) fun e _ hst=>qh ?_;unfold kF;refine sW ?_;refine C1.im sT (by rfl) (by rfl) ?_;simp only[tZ,↓un_u,simprocAttr,e1,e2,e3,e4,Ax,qe hk,AY,Ak];generalize s.cols[k]=x at h2 sM ⊢
   refine⟨by omega,fun h=>absurd h h2,fun _=>?_⟩;refine C1.im sM (by rfl) (by rfl) ?_;simp only[tZ,↓un_u,simprocAttr,Bx,Bz];refine⟨fun h=>?_,fun h=>?_⟩
   ·rw[h,Aq (by simp)];exact .oA [] []
   ·rw[h,Aj rfl];exact .oA [] []
end Go.Proofs
namespace Go.Proofs
open Go Go.TL
set_option maxRecDepth 4000
set_option maxHeartbeats 8000000
theorem zi2 {α:Type} {p:α→Bool} {l:List α} (h:l.any p=true):∃ (i:Nat) (hi:i<l.length),idxI p l=i∧p l[i]=true:=by
 obtain⟨x,hx,hp⟩:=DJ.1 h;have hlt:=List.findIdx_lt_length_of_exists ⟨x,hx,hp⟩;exact⟨l.findIdx p,hlt,by rw[idxI,Aj h],List.findIdx_getElem⟩
end Go.Proofs
namespace Go.Proofs
open Go Go.TL
set_option maxRecDepth 4000
set_option maxHeartbeats 8000000
open So
def fitV (s:Sch) (ps:List Pk) (row:List Int) (i:Nat):Bool:=(zC8 s (ps.getD i default).col.toNat (ps.getD i default).lev (row.getD (i+1) 0)).2
def fitX (s:Sch) (ps:List Pk) (row:List Int):Bool:=(row.length==ps.length+1)&&decide (0≤hd row)&&decide (hd row≤1048575)&&(List.range ps.length).all (fitV s ps row)
theorem jn8 {n:Nat} {p:Nat→Bool}:(List.range (n+1)).all p=((List.range n).all p&&p n):=by
 rw[List.range_succ,FK];simp
theorem jH8 {n m:Nat} {p:Nat→Bool} (h:n<m) (hp:p n=false):(List.range m).all p=false:=by
 rw[List.all_eq_false];exact⟨n,Dk.2 h,by rw[hp];simp⟩
theorem zq0 (s:Sch) (ps:List Pk) (row:List Int) (hp:kY s ps=0) (hr:row.length<4611686018427387904):Spc Tryz.prog WT [schT s,vPs ps,vIs row] [] (vB (fitX s ps row)) []:=by
 obtain⟨hE,hpk,_⟩:=Zd hp;have hpl:=zg4 hp;have hwl:=qk (i:=ps.length) (by omega);by_cases hl:row.length=ps.length+1
 ·have h0:0<row.length:=by omega
  have hgi:=yl h0;have q1:((row.length:Int) != ((ps.length+1:Nat):Int))=false:=by rw[Aw];omega
  have hX:fitX s ps row=(decide (0≤hd row)&&decide (hd row≤1048575)&&(List.range ps.length).all (fitV s ps row)):=by
   rw[fitX,AY.2 hl,Fq]
  rw[hX];refine qd KX mixm (by simp) fun e _ hst=>qh ?_;unfold wt;simp only[tZ,↓un_u,simprocAttr,hwl,q1,hgi,tD,gt_iff_lt];refine⟨by omega,by omega,fun h=>?_,fun h=>?_⟩
  ·rw[show (decide (0≤hd row)&&decide (hd row≤1048575))=false from by
    rw[Bool.eq_false_iff];intro k;simp only[Bq,AZ] at k;omega,Bool.false_and]
   exact .oA [] []
  rw[show (decide (0≤hd row)&&decide (hd row≤1048575))=true from by simp only[Bq,AZ];omega,Fq];refine qw mixm (α:=Nat) [31] (fun i=>i≤ps.length∧((List.range i).all (fitV s ps row)=true)) (fun i=>[(31,vI i)]) (fun i=>[(4096,.arr 2 [schT s] false)]) (fun i=>ps.length-i) 0 ⟨by omega,?_⟩ ?_ fun i hi=>?_
  ·rfl
  ·exact .oA [(4096,some 4096)] []
  simp only[tZ,↓un_u,simprocAttr,AZ,Ay];refine⟨fun h=>?_,fun h=>?_⟩
  ·have hi2:i<ps.length:=by omega
   have hpi:=Jb (hpk _ (AX hi2));obtain⟨c,hc⟩:=AJ (show 0≤ps[i].col by omega);have hwi:=qk (i:=i) (by omega);have hs:=zC9 s hE c (by omega) (by omega) ps[i].lev (row.getD (i+1) 0) (by rw[hc] at hpi;omega);have hrl:i+1<row.length:=by omega
   have hgr:(row.map vI).getD (i+1) .junk=vI (row.getD (i+1) 0):=by rw[qe hrl,qg hrl]
   have hV:fitV s ps row i=(zC8 s c ps[i].lev (row.getD (i+1) 0)).2:=by rw[fitV,qg hi2,hc,Ax]
   have hi2:i<ps.length:=by omega
   have hwi:=qk (i:=i) (by omega);simp only[tZ,↓un_u,simprocAttr,Ax,qe hi2,hwi,hc,hgr];refine⟨by omega,by omega,?_⟩;refine C1.im hs (by rfl) (by rfl) ?_;simp only[tZ,↓un_u,simprocAttr,Bx,Bz,hwi];refine⟨by kernel_rfl,fun h6=>?_,fun h6=>?_⟩
   ·rw[jH8 hi2 (hV.trans h6)];exact .oA [] []
   ·refine⟨i+1,⟨by omega,by rw[jn8,hi.2,hV,h6];rfl⟩,by omega,?_⟩;exact .oA [(4096,some 4096)] []
  ·have hi2:i=ps.length:=by omega
   subst hi2;rw[hi.2];exact .oA [] []
 ·have q1:((row.length:Int) != ((ps.length+1:Nat):Int))=true:=by rw[Bj];omega
  have hX:fitX s ps row=false:=by
   rw[fitX,Ak.2 hl]
   rfl
  rw[hX];by_cases h0:0<row.length
  ·have hgi:=yl h0;refine qd KX mixm (by simp) fun e _ hst=>qh ?_;unfold wt;simp only[tZ,↓un_u,simprocAttr,hwl,q1,hgi];exact .oA [] []
  ·obtain rfl:row=[]:=Dy.1 (by omega);have hb1:∀ n,binR BinOp.lss false (((List.map vI ([]:List Int)).getD 0 T.junk).cells.getD 0 T.junk) (T.v (Value.int IntKind.i64 n))=none:=fun _=>rfl;have hb2:∀ n,binR BinOp.gtr false (((List.map vI ([]:List Int)).getD 0 T.junk).cells.getD 0 T.junk) (T.v (Value.int IntKind.i64 n))=none:=fun _=>rfl;have q0:((0:Int) != ((ps.length+1:Nat):Int))=true:=by rw[Bj];omega
   refine qd KX mixm (by simp) fun e _ hst=>qh ?_;unfold wt;simp only[tZ,↓un_u,simprocAttr,hwl,q0,hb1,hb2];exact .oA [] []
theorem zX8 {s:Sch} {ps:List Pk} {row:List Int} (h:fitX s ps row=true):row.length=ps.length+1∧0≤hd row∧hd row≤1048575:=by
 unfold fitX at h;simp only[Bq,AY,AZ] at h;exact⟨h.1.1.1,h.1.1.2,h.1.2⟩
def zR0 (s:Sch) (x:Ext) (i:Nat):Int:=if fitX s x.picks (x.rows.getD i [])=false then 9 else if 0<i∧hd (x.rows.getD i [])≤hd (x.rows.getD (i-1) []) then 10 else 0
def extE (s:Sch) (x:Ext):Int:=if schE s≠0 then schE s else if jq x.proj=false then 3 else if x.ver<0∨x.ver>300 then 13 else if kY s x.picks≠0 then kY s x.picks else if x.rows.length>200 then 1 else zI (zR0 s x) x.rows.length
theorem qo8 (s:Sch) (hs:yX s) (x:Ext) (hp:x.picks.length<4611686018427387904) (hr:∀ r∈x.rows,r.length<4611686018427387904):Spc Tryz.prog Qt [schT s,extT x] [] (vI (extE s x)) []:=by
 refine qd qR7 mixm (by simp) fun e _ hst=>qh ?_;unfold Jy;refine sW ?_;refine C1.im (jf s hs.2.1 hs.1) (by rfl) (by rfl) ?_;simp only[tZ,↓un_u,simprocAttr,Bj,Aw];refine⟨fun h=>?_,fun h=>?_⟩
 ·rw[extE,Aj h];exact .oA [] []
 rw[extE,Aq (by rw[h];simp)];refine C1.im (wC x.proj) (by rfl) (by rfl) ?_;simp only[tZ,↓un_u,simprocAttr,tD,Bx,Bz,gt_iff_lt];refine⟨fun h2=>?_,fun h2=>⟨fun h3=>?_,fun h3=>?_⟩⟩
 ·rw[Aj h2];exact .oA [] []
 ·rw[Aq (by rw[h2];simp),Aj h3];exact .oA [] []
 rw[Aq (by rw[h2];simp),Aq (by omega)];refine C1.im (qu3 s hs x.picks hp) (by rfl) (by rfl) ?_;simp only[tZ,↓un_u,simprocAttr,Bj,Aw];refine⟨fun h4=>?_,fun h4=>?_⟩
 ·rw[Aj h4];exact .oA [] []
 rw[Aq (by rw[h4];simp)];simp only[tZ,↓un_u,simprocAttr,tD,gt_iff_lt];refine⟨fun h5=>?_,fun h5=>?_⟩
 ·rw[Aj (by omega)];exact .oA [] []
 rw[Aq (by omega)];generalize hE:zI (zR0 s x) x.rows.length=E;refine qw mixm (α:=Nat) [42] (fun i=>i≤x.rows.length∧(zI (zR0 s x) i=0)) (fun i=>[(42,vI i)]) (fun i=>[(4096,.arr 2 [schT s] false),(4100,.arr 4 [extT x] false)]) (fun i=>x.rows.length-i) 0 ⟨by omega,?_⟩ ?_ fun i hi=>?_
 ·rfl
 ·exact .oA [(4096,some 4096),(4100,some 4100)] []
 simp only[tZ,↓un_u,simprocAttr,AZ,Ay];refine⟨fun h=>?_,fun h=>?_⟩
 ·have hi2:i<x.rows.length:=by omega
  have hg:x.rows.getD i []=x.rows[i]:=qg hi2;have hstep:=Qi hi.2 hi2;have hnext:=jO hi.2;have hA:zR0 s x i=if fitX s x.picks x.rows[i]=false then 9 else if 0<i∧hd x.rows[i]≤hd (x.rows.getD (i-1) []) then 10 else 0:=by rw[zR0,hg]
  have hprev:0<i→fitX s x.picks (x.rows.getD (i-1) [])=true:=fun h0=>by
   have:=Qh hi.2 (i-1) (by omega);unfold zR0 at this;split at this
   ·cases this
   ·rename_i k;simpa using k
  rw[hE] at hstep;have hF:=zq0 s x.picks x.rows[i] h4 (hr _ (AX hi2));obtain⟨k,hk1,hk2,hk3⟩:∃ k:Nat,(IntKind.i64.wrap ((i:Int)-1)).toNat=k∧k<x.rows.length∧(i=0∧k=0∨0<i∧k+1=i∧IntKind.i64.wrap ((i:Int)-1)=k):=by
   rcases DQ i with h0 | h0
   ·subst h0;exact⟨0,by decide,hi2,.inl ⟨rfl,rfl⟩⟩
   ·have e:=kg h0 (show i<4611686018427387904 by omega);exact⟨i-1,by rw[e];omega,by omega,.inr ⟨h0,by omega,e⟩⟩
  have hwi:=qk (i:=i) (by omega);have hi2:i<x.rows.length:=by omega
  have hwi:=qk (i:=i) (by omega);simp only[tZ,↓un_u,simprocAttr,Ax,qe hi2,hwi];refine⟨by omega,?_⟩;refine C1.im hF (by rfl) (by rfl) ?_;simp only[tZ,↓un_u,simprocAttr,Bx,Bz];refine⟨fun h6=>?_,fun h6=>?_⟩
  ·rw[Aj h6] at hA;rw[hstep (by rw[hA];simp),hA];exact .oA [] []
  rw[Aq (by rw[h6];simp)] at hA;obtain⟨f1,f2,f3⟩:=zX8 h6;have hip:0<x.rows[i].length:=by omega
  have hkp:0<x.rows[k].length:=by
   rcases hk3 with⟨a,b⟩ | ⟨a,b,_⟩
   ·subst a;subst b;exact hip
   ·have:=(zX8 (hprev a)).1;rw[show i-1=k by omega,qg hk2] at this;omega
  have hgk:0<i→x.rows.getD (i-1) []=x.rows[k]:=fun h0=>by
   rw[show i-1=k by omega,qg hk2]
  simp only[tZ,↓un_u,simprocAttr,hk1,qe hk2,yl hip,yl hkp,tD,gt_iff_lt,hwi];refine⟨fun _=>by omega,fun _=>by omega,fun _=>by omega,by kernel_rfl,fun h7=>?_,fun h7=>?_⟩
  ·have h8:0<i:=by omega
   rw[Aj ⟨h8,by rw[hgk h8];exact h7.2⟩] at hA;rw[hstep (by rw[hA];simp),hA];exact .oA [] []
  ·rw[Aq (fun k=>by
    have h8:=k.1;rw[hgk h8] at k;omega)] at hA
   refine⟨i+1,⟨by omega,by rw[hnext,hA]⟩,by omega,?_⟩;exact .oA [(4096,some 4096),(4100,some 4100)] []
 ·have hi2:i=x.rows.length:=by omega
  subst hi2;rw[← hE,hi.2];exact .oA [] []
theorem ke1 {s:Sch} {x:Ext} (h:extE s x=0):schE s=0∧jq x.proj=true∧(0≤x.ver∧x.ver≤300)∧kY s x.picks=0∧x.rows.length≤200∧(∀ i (hi:i<x.rows.length),fitX s x.picks x.rows[i]=true)∧AscR x.rows:=by
 unfold extE at h;split at h
 ·rename_i h1;exact absurd h h1
 rename_i h1;split at h
 ·cases h
 rename_i h2;split at h
 ·cases h
 rename_i h3;split at h
 ·rename_i h4;exact absurd h h4
 rename_i h4;split at h
 ·cases h
 rename_i h5;have key:∀ i (hi:i<x.rows.length),fitX s x.picks x.rows[i]=true∧¬ (0<i∧hd (x.rows.getD i [])≤hd (x.rows.getD (i-1) [])):=fun i hi=>by
  have:=Qh h i hi;unfold zR0 at this;split at this
  ·cases this
  ·rename_i k;rw[qg hi] at k;split at this
   ·cases this
   ·rename_i k2;exact⟨by simpa using k,k2⟩
 refine⟨AQ h1,by simpa using h2,by omega,AQ h4,by omega,fun i hi=>(key i hi).1,jn2 (f:=hd) fun i h0 hi=>?_⟩;have:=(key i hi).2;have e1:x.rows.getD i default=x.rows.getD i []:=rfl;have e2:x.rows.getD (i-1) default=x.rows.getD (i-1) []:=rfl;rw[e1,e2];omega
def knwP (x:Ext) (r:Nat) (c:Int):Int×Int:=if (x.picks.any fun p=>p.col==c)=true then ((x.picks.getD (x.picks.findIdx fun p=>p.col==c) default).lev,(x.rows.getD r []).getD ((x.picks.findIdx fun p=>p.col==c)+1) 0) else (0,0)
def knwI (s:Sch) (x:Ext) (r:Nat) (c lev:Int):Int×Bool:=qP0 s c (knwP x r c).1 (knwP x r c).2 lev
theorem qP1 (p:Pk) (c:Int):Spc Tryz.prog wN [pkT p,.ip [vI c]] [] (vB (p.col==c)) []:=by
 refine qd qE3 mixm (by simp) fun e _ hst=>qh ?_;unfold QV;refine sW ?_;exact .oA [] []
theorem zi3 (s:Sch) (hE:schE s=0) (x:Ext) (r:Nat) (hr:r<x.rows.length) (hrl:x.rows[r].length=x.picks.length+1) (hpl:x.picks.length≤1000) (c lev:Int):Spc Tryz.prog KJ [schT s,extT x,vI r,vI c,vI lev] [] (.tup [vI (knwI s x r c lev).1,vB (knwI s x r c lev).2]) []:=by
 have sI:=Zh (fun p=>p.col==c) wN [.ip [vI c]] rfl x.picks (fun p _=>qP1 p c) (by omega);cases ha:x.picks.any fun p=>p.col==c with
 | false=>
   have h0:idxI (fun p:Pk=>p.col==c) x.picks = -1:=by rw[idxI,Aq (by rw[ha];simp)]
   have hT:=qo7 s hE c 0 0 lev;have hK:knwI s x r c lev=qP0 s c 0 0 lev:=by rw[knwI,knwP,Aq (by rw[ha];simp)]
   rw[hK];generalize qP0 s c 0 0 lev=w at hT ⊢
   rw[h0] at sI;refine qd qg5 mixm (by simp) fun e _ hst=>qh ?_;unfold yF;refine sW ?_;refine C1.lend [4104] sI ?_ (by rfl) (by rfl) ?_
   ·all_goals (try simp only[tL,simprocAttr,By,List.map_cons,List.map_nil,BW,Cy])
    all_goals (try (repeat' (first | exact ze | (apply zB;intro _;exact⟨rfl,rfl⟩) | (apply qH;intro _;exact⟨rfl,rfl⟩) | with_reducible apply qX | with_reducible refine qT ⟨rfl,rfl⟩ ?_ | exact qY | with_reducible apply qU | with_reducible refine qW ⟨rfl,rfl,?_⟩ ?_ | with_reducible apply Az | exact qV rfl | exact qV (by assumption) | (refine⟨⟨?_,rfl,?_,rfl,?_⟩,trivial⟩ <;> first | (simp;done) | (apply qH;intro _;exact⟨rfl,rfl⟩)) | trivial | rfl | (rw[qk (by omega)]) | omega)))
    all_goals (simp only[ltP];exact⟨rfl,by decide,rfl,qT ⟨rfl,rfl⟩ qY⟩)
   refine sW ?_;refine C1.im hT (by rfl) (by rfl) ?_;refine sW ?_;exact .oA [] []
 | true=>
   obtain⟨i,hi,e1,_⟩:=zi2 ha;have e2:idxI (fun p:Pk=>p.col==c) x.picks=(x.picks.findIdx fun p=>p.col==c:Nat):=by rw[idxI,Aj ha]
   have e3:(x.picks.findIdx fun p=>p.col==c)=i:=by omega
   have hK:knwI s x r c lev=qP0 s c x.picks[i].lev (x.rows[r].getD (i+1) 0) lev:=by rw[knwI,knwP,Aj ha,e3,qg hi,qg hr]
   have hT:=qo7 s hE c x.picks[i].lev (x.rows[r].getD (i+1) 0) lev;rw[hK];generalize qP0 s c x.picks[i].lev (x.rows[r].getD (i+1) 0) lev=w at hT ⊢
   rw[e1] at sI;have hwi:=qk (i:=i) (by omega);have hil:i+1<x.rows[r].length:=by omega
   have hgr:(x.rows[r].map vI).getD (i+1) .junk=vI (x.rows[r].getD (i+1) 0):=by rw[qe hil,qg hil]
   refine qd qg5 mixm (by simp) fun e _ hst=>qh ?_;unfold yF;refine sW ?_;refine C1.lend [4104] sI ?_ (by rfl) (by rfl) ?_
   ·all_goals (try simp only[tL,simprocAttr,By,List.map_cons,List.map_nil,BW,Cy])
    all_goals (try (repeat' (first | exact ze | (apply zB;intro _;exact⟨rfl,rfl⟩) | (apply qH;intro _;exact⟨rfl,rfl⟩) | with_reducible apply qX | with_reducible refine qT ⟨rfl,rfl⟩ ?_ | exact qY | with_reducible apply qU | with_reducible refine qW ⟨rfl,rfl,?_⟩ ?_ | with_reducible apply Az | exact qV rfl | exact qV (by assumption) | (refine⟨⟨?_,rfl,?_,rfl,?_⟩,trivial⟩ <;> first | (simp;done) | (apply qH;intro _;exact⟨rfl,rfl⟩)) | trivial | rfl | (rw[qk (by omega)]) | omega)))
    all_goals (simp only[ltP];exact⟨rfl,by decide,rfl,qT ⟨rfl,rfl⟩ qY⟩)
   have q1:decide ((i:Int)<0)=false:=Cq (by omega);have hgi2:=qe (f:=pkT) hi;simp only[tZ,↓un_u,simprocAttr,q1,Ax,hgi2,qe hr,hwi,hgr];refine⟨by omega,by omega,by omega,?_⟩;refine C1.im hT (by rfl) (by rfl) ?_;refine sW ?_;refine⟨by kernel_rfl,?_⟩;exact .oA [] []
def valI (s:Sch) (x:Ext) (r c lev:Int):Int×Bool:=if extE s x≠0∨r<0∨r≥x.rows.length then (0,false) else knwI s x r.toNat c lev
theorem qo9 (s:Sch) (hs:yX s) (x:Ext) (hp:x.picks.length<4611686018427387904) (hr:∀ r∈x.rows,r.length<4611686018427387904) (r c lev:Int):Spc Tryz.prog wi [schT s,extT x,vI r,vI c,vI lev] [] (.tup [vI (valI s x r c lev).1,vB (valI s x r c lev).2]) []:=by
 have hV:valI s x r c lev=if extE s x≠0∨r<0∨r≥x.rows.length then (0,false) else knwI s x r.toNat c lev:=rfl
 have hC:=qo8 s hs x hp hr;by_cases h:extE s x≠0∨r<0∨r≥x.rows.length
 ·rw[hV,Aj h];refine qd qg4 mixm (by simp) fun e _ hst=>qh ?_;unfold yE;refine sW ?_;refine C1.im hC (by rfl) (by rfl) ?_;simp only[tZ,↓un_u,simprocAttr,tD,Bj,Aw];refine⟨fun _=>?_,fun k=>by omega⟩;exact .oA [] []
 ·obtain⟨hE,_,_,hp0,_,hf,_⟩:=ke1 (s:=s) (x:=x) (by omega);obtain⟨j,rfl⟩:=AJ (show 0≤r by omega);have hj:j<x.rows.length:=by omega
  have hpl:=zg4 hp0;have hK:=zi3 s hE x j hj (zX8 (hf j hj)).1 (by omega) c lev;rw[hV,Aq h,Ax];generalize knwI s x j c lev=w at hK ⊢
  refine qd qg4 mixm (by simp) fun e _ hst=>qh ?_;unfold yE;refine sW ?_;refine C1.im hC (by rfl) (by rfl) ?_;simp only[tZ,↓un_u,simprocAttr,tD,Bj,Aw];refine⟨fun k=>by omega,fun _=>?_⟩;refine C1.im hK (by rfl) (by rfl) ?_;refine sW ?_;exact .oA [] []
def nrwX (x:Ext) (ks:List Int):Ext:=⟨x.proj,x.ver,x.picks,x.rows.filter fun r=>decide (0<r.length)&&ks.contains (hd r)⟩
end Go.Proofs
namespace Go.Proofs
open Go Go.TL
set_option maxRecDepth 4000
set_option maxHeartbeats 8000000
open So
def nrwP (ks:List Int) (r:List Int):Bool:=decide (0<r.length)&&ks.contains (hd r)
theorem qW4 (x:Ext) (ks:List Int) (hk:ks.length<4611686018427387904) (hp:x.picks.length*16≤140737488355328) (hrl:x.rows.length≤1000000) (hr:∀ r∈x.rows,r.length*8≤140737488355328):Spc Tryz.prog Jr [extT x,vIs ks] [] (extT (nrwX x ks)) []:=by
 rw[show nrwX x ks=⟨x.proj,x.ver,x.picks,x.rows.filter (nrwP ks)⟩ from rfl];refine qd qK6 mixm (by simp) fun e _ hst=>qh ?_;unfold ZE;refine sW ?_;refine C1.im (Wx x.picks hp) (by rfl) (by rfl) ?_;refine sW ?_;refine⟨by kernel_rfl,?_⟩;refine qw mixm (α:=Nat) [19] (fun i=>i≤x.rows.length) (fun i=>[(19,vI i)]) (fun i=>[(4100,.arr 4 [extT ext0] false),(8224,.arr 4 [.agg [vS x.proj,vI x.ver,vPs x.picks,.asl 1 ((x.rows.take i).filter (nrwP ks)).length]] false),(1,.arr 1 (((x.rows.take i).filter (nrwP ks)).map vIs) false)]) (fun i=>x.rows.length-i) 0 (by omega) ?_ fun i hi=>?_
 ·exact .oA [(4100,some 4100),(8224,some 8224),(1,none)] []
 have hfl:=Fx (nrwP ks) (x.rows.take i);rw[Cz] at hfl;refine sD ?_;refine⟨fun h4=>?_,fun h4=>?_⟩
 ·have hi2:i<x.rows.length:=by omega
  have hwi:=qk (i:=i) (by omega);have hsp:(x.rows.take (i+1)).filter (nrwP ks)=(x.rows.take i).filter (nrwP ks)++if nrwP ks x.rows[i]=true then [x.rows[i]] else []:=by
   rw[qM hi2,FY,List.filter_cons,List.filter_nil]
  have hrr:=hr _ (AX hi2);have hCl:=qH5 x.rows[i] (by omega);simp only[tZ,↓un_u,simprocAttr,Ax,qe hi2];refine⟨by omega,?_⟩;generalize x.rows[i]=r at hsp hrr hCl ⊢
  by_cases h0:0<r.length
  ·have hgi:=yl h0;have hCt:=wD ks (hd r) hk;have q1:decide ((r.length:Int)>0)=true:=Cx (by omega);have hP:nrwP ks r=ks.contains (hd r):=by rw[nrwP,Cx h0,Fq]
   rw[hP] at hsp;simp only[tZ,↓un_u,simprocAttr,hgi,q1];refine⟨by omega,?_⟩;refine C2.im (fun _=>hCt) (fun _=>rfl) (by rfl) ?_;simp only[tZ,↓un_u,simprocAttr,hwi];refine⟨fun h6=>?_,fun h6=>?_⟩
   ·rw[Aj h6] at hsp;refine C1.im hCl (by rfl) (by rfl) ?_;simp only[tZ,↓un_u,simprocAttr,hwi];have hspl:=congrArg List.length hsp;simp only[AW,CJ,Cw] at hspl;refine⟨by omega,by kernel_rfl,i+1,by omega,by omega,?_⟩;rw[hsp];exact .oA [(4100,some 4100),(8224,some 8224),(1,some 1)] []
   ·rw[Aq (by rw[h6];simp),CW] at hsp;refine⟨i+1,by omega,by omega,?_⟩;rw[hsp];exact .oA [(4100,some 4100),(8224,some 8224),(1,some 1)] []
  ·have q1:decide ((r.length:Int)>0)=false:=Cq (by omega);have hP:nrwP ks r=false:=by rw[nrwP,Cq h0,Bool.false_and]
   rw[hP,Aq (by simp),CW] at hsp;obtain rfl:r=[]:=Dy.1 (by omega);simp only[tZ,↓un_u,simprocAttr,q1];refine C2.im (r:=vB false) (fun h=>absurd h (by simp)) (fun h=>absurd h (by simp)) (by rfl) ?_;simp only[tZ,↓un_u,simprocAttr,hwi];refine⟨i+1,by omega,by omega,?_⟩;rw[hsp];exact .oA [(4100,some 4100),(8224,some 8224),(1,some 1)] []
 ·have hil:i=x.rows.length:=by omega
  subst hil;rw[Bw];exact .oA [] [1]
end Go.Proofs
namespace Go.Proofs
open Go Go.TL
set_option maxRecDepth 4000
set_option maxHeartbeats 8000000
def zD7:CodL:=⟨⟨#[108]⟩,[⟨⟨#[97]⟩,-1⟩,⟨⟨#[98]⟩,0⟩,⟨⟨#[99]⟩,0⟩]⟩
def qt6:Sch:=⟨[zD7],[⟨⟨#[119,104,111]⟩,1,0,0,0,[],false⟩,⟨⟨#[115,101,120]⟩,2,0,0,0,[],false⟩]⟩
def zD8:Qst:=⟨⟨#[113]⟩,1,.mk 1 0 0 0 0 [],[⟨1,1⟩],-1,[],cnd0⟩
def qP2:Dcl:=⟨⟨#[112]⟩,⟨#[115]⟩,.mk 1 0 0 0 0 [],⟨1,1,0⟩,[zD8]⟩
theorem qX7:yX qt6:=⟨by decide,by decide,by decide⟩
end Go.Proofs
