/- A part of the proof: trees of Go values, short forms, contracts. -/
import Derived.WalkKit
import Derived.Still
import Derived.MapKept
import GoSem.Builtin.Cap
import Derived.Laws.Externs
import GoSem.Extern.SlicesOverlaps
import Derived.Carry
import Derived.ProofKit
import Derived.OpenShut
import Derived.HandedShaped
import Derived.Lay
import Derived.LaidLaws
import Derived.MakeChecks
import Derived.SevenTiedAt
import Derived.Test.YtnfagfikoblhfaaGreatDoorChecked
import Derived.Test.YtnfagfikoblhfaaGreatDoorK23
set_option linter.unusedSimpArgs false
set_option linter.unusedVariables false
namespace Go.Proofs
open Go Go.TL
open Go.TL.So
theorem jV9 (k:UInt8):IntKind.i64.wrap (0+IntKind.i64.wrap ((k.toNat:Nat):Int))=(k.toNat:Int):=by
 have h:=k.toNat_lt;rw[AK (k.toNat:Int) (by omega),AK _ (by omega)];omega
def L8 (n:Nat):Nat:=if n=0 then 0 else Nat.log2 n+1
theorem kn9 (n:Nat) (h:n<256):L8 n≤8∧n<2 ^ L8 n∧(0<n→2 ^ L8 n≤2*n):=by
 unfold L8
 revert n
 decide +kernel
def L16 (n:Nat):Nat:=if n<256 then L8 n else 8+L8 (n / 256)
theorem ko0 (n:Nat) (h:n<65536):L16 n≤16∧n<2 ^ L16 n∧(0<n→2 ^ L16 n≤2*n):=by
 unfold L16;split
 ·rename_i h2;obtain⟨h3,h4,h5⟩:=kn9 n h2;exact⟨by omega,h4,h5⟩
 ·rename_i h2;obtain⟨h3,h4,h5⟩:=kn9 (n / 256) (by omega);rw[Nat.pow_add];have h6:=h5 (by omega);generalize 2 ^ L8 (n / 256)=p at *
  refine⟨by omega,?_,fun _=>?_⟩ <;> omega
set_option maxRecDepth 100000 in
theorem qR2 (n:Nat) (h:n<65536):Spc Tryz.prog Zv [vU64 n] [] (vI (L16 n)) []:=by
 have d1:decide ((n:Int)≥4294967296)=false:=Cq (by omega);have d2:decide ((n:Int)≥65536)=false:=Cq (by omega);by_cases h8:n<256
 ·have d3:decide ((n:Int)≥256)=false:=Cq (by omega);have hw:IntKind.u8.wrap (n:Int)=n:=by rw[IntKind.wrap_u8];omega
  rw[L16,Aj h8];refine qd WO mixm (by simp) fun e _ hst=>qg ?_;unfold kX;simp only[tZ,↓un_u,simprocAttr,d1,d2,d3,hw,Ax,jV9];refine⟨⟨by omega,Int.ofNat_lt.2 h8⟩,.imR (congrArg (fun k:Nat=>vI (k:Int)) ?_) rfl⟩;clear d1 d2 d3 hw h;unfold L8
  revert n
  decide +kernel
 ·have d3:decide ((n:Int)≥256)=true:=Cx (by omega);have hs:shrI .u64 (n:Int) 8=((n / 256:Nat):Int):=by
   simp only[shrI];rw[show min (8:Int).toNat IntKind.u64.bits=8 from rfl,show (2:Int) ^ 8=256 from rfl,DW _ (by omega)];omega
  have hw:IntKind.u8.wrap ((n / 256:Nat):Int)=((n / 256:Nat):Int):=by rw[IntKind.wrap_u8];omega
  have hw2:IntKind.i64.wrap (0+8)=8:=by decide
  rw[L16,Aq h8];refine qd WO mixm (by simp) fun e _ hst=>qg ?_;unfold kX;simp only[tZ,↓un_u,simprocAttr,d1,d2,d3,hs,hw,hw2,Ax];have hm:n / 256<256:=by omega
  refine⟨⟨by omega,Int.ofNat_lt.2 hm⟩,.imR (congrArg vI ?_) rfl⟩;clear d1 d2 d3 hw hw2 hs h h8 hst;generalize n / 256=m at *
  unfold L8
  revert m
  decide +kernel
theorem zk0 (n:Nat) (h:n<65536):∃ l:Nat,(l≤16∧n<2 ^ l∧(0<n→2 ^ l≤2*n))∧Spc Tryz.prog KK [vU64 n] [] (vI l) []:=by
 have hs:=qR2 n h;refine⟨L16 n,ko0 n h,?_⟩;refine qd qV7 mixm (by simp) fun e _ hst=>qg ?_;unfold JG;refine sW ?_;refine C1.im hs (by rfl) (by rfl) ?_;refine sW ?_;exact .imR rfl rfl
def xs1 (v:Int):Int:=xorI .u64 v (shlI .u64 v 13)
def xs2 (v:Int):Int:=xorI .u64 v (shrI .u64 v 7)
end Go.Proofs
namespace Go.Proofs
open Go Go.TL
open Go.TL.So
set_option maxHeartbeats 2000000
end Go.Proofs
namespace Go.Proofs
open Go Go.TL
set_option maxRecDepth 4000
set_option maxHeartbeats 8000000
open So
end Go.Proofs
namespace Go.Proofs
open Go Go.TL
set_option maxRecDepth 4000
set_option maxHeartbeats 8000000
open So
end Go.Proofs
namespace Go.Proofs
open Go Go.TL
set_option maxRecDepth 4000
set_option maxHeartbeats 4000000
structure DrE (x:Src) (d:Edt):Prop where
 kind:1≤d.kind∧d.kind≤4
 len:d.row.length≤8
 id:0≤d.id∧d.id≤1048575
end Go.Proofs
namespace Go.Proofs
open Go Go.TL
set_option maxRecDepth 4000
set_option maxHeartbeats 8000000
open So
theorem SrcOk.smx {s:Src} (h:SrcOk s):jb3 s:=⟨(qR h.sch).sm,fun r hr=>by
 have h1:=(qg2 (h.rows r hr)).2.1;have h2:=(qR h.sch).nc;omega⟩
structure TwoOk (a b:Ext):Prop where
 pa:a.proj=b.proj
 pk:a.picks=b.picks
 oa:ExtOk a
 ob:ExtOk b
 sa:ExtSm a
 sb:ExtSm b
 na:a.rows.length≤200
 nb:b.rows.length≤200
theorem TwoOk.symm {a b:Ext} (h:TwoOk a b):TwoOk b a:=⟨h.pa.symm,h.pk.symm,h.ob,h.oa,h.sb,h.sa,h.nb,h.na⟩
theorem zk1 (s:Src) (l:List Pk) (k:Int):∀ (m A:List (List Int)),AscR A→(∀ r∈A,r.length=l.length+1)→AscR (m.foldl (qI8 s l k) A)∧(∀ r∈m.foldl (qI8 s l k) A,r.length=l.length+1)∧(m.foldl (qI8 s l k) A).length≤A.length+m.length
 | [],A,h1,h2=>⟨h1,h2,by simp⟩
 | r::m,A,h1,h2=>by
   obtain⟨k1,k2,k3⟩:=zk1 s l k m (qI8 s l k A r) (zF6 h1) (fun x hx=>by
    rcases (zF7 h1).1 hx with e | ⟨hx,_⟩
    ·rw[e];simp [rowX]
    ·exact h2 x hx)
   have h3:=jm9 A (rowX s l k r);refine⟨k1,k2,?_⟩;have h4:(qI8 s l k A r).length≤A.length+1:=h3;rw[Dw,CJ];omega
theorem jW0 {s:Src} (h:SrcOk s) (d:Dcl):(ownR s d).length≤200:=by
 have:=h.nr;unfold ownR;split
 ·simp
 ·exact FZ (Fx _ _) h.nr
end Go.Proofs
namespace Go.Proofs
open Go Go.TL
set_option maxRecDepth 4000
set_option maxHeartbeats 8000000
open So
theorem jW1 (x:ByteArray):eqB x x=true:=by
 show (x.toList==x.toList)=true;simp
end Go.Proofs
namespace Go.Proofs
open Go Go.TL
set_option maxRecDepth 4000
set_option maxHeartbeats 8000000
open So
end Go.Proofs
namespace Go.Proofs
open Go Go.TL
set_option maxRecDepth 4000
set_option maxHeartbeats 8000000
open So
end Go.Proofs
namespace Go.Proofs
open Go Go.TL
set_option maxRecDepth 4000
set_option maxHeartbeats 8000000
open So
theorem jL9 {k n:Int} (hk:0≤k∧k<1152921504606846976) (hn:0≤n∧n<1048576):0≤keyI k n∧idI k (keyI k n)=n:=by
 have h1:JV k n=true:=by simp [JV];omega
 have h2:=Wq (s:=k) (qp5 hn) 8;have h3:=zU6 h2;have h4:keyI k n=tie (fwd k 8 (cut n)):=by rw[keyI,Aj h1]
 have h5:JV k (keyI k n)=true:=by rw[h4];simp [JV];omega
 refine⟨by omega,?_⟩;rw[idI,Aj h5,h4,kg4 h2,jJ0 (qp5 hn),kg5]
theorem kh9 {k n m:Int} (hk:0≤k∧k<1152921504606846976) (hn:0≤n∧n<1048576) (hm:0≤m∧m<1048576) (h:keyI k n=keyI k m):n=m:=by
 have h1:=(jL9 hk hn).2;have h2:=(jL9 hk hm).2;rw[← h1,← h2,h]
theorem zW2 (s:Src) (l:List Pk) (k:Int):∀ (m A:List (List Int)),AscR A→(m.Pairwise fun a b=>keyI k (hd a)≠keyI k (hd b))→(∀ r∈m,∀ x∈A,hd x≠keyI k (hd r))→
 ∀ x,x∈m.foldl (qI8 s l k) A↔x∈A∨∃ r∈m,x=rowX s l k r
 | [],A,_,_,_,x=>by simp
 | r::m,A,h1,h2,h3,x=>by
   obtain⟨h4,h5⟩:=List.pairwise_cons.1 h2;have hm:∀ y,y∈qI8 s l k A r↔y=rowX s l k r∨y∈A:=fun y=>by
    show y∈putR A (rowX s l k r)↔_;rw[zF7 h1];constructor
    ·rintro (a | ⟨a,_⟩)
     ·exact .inl a
     ·exact .inr a
    ·rintro (a | a)
     ·exact .inl a
     ·exact .inr ⟨a,h3 r (by simp) y a⟩
   rw[Dw,zW2 s l k m (qI8 s l k A r) (zF6 h1) h5 (fun q hq y hy=>by
    rcases (hm y).1 hy with e | hy
    ·rw[e];exact h4 q hq
    ·exact h3 q (CQ _ hq) y hy),hm]
   constructor
   ·rintro ((a | a) | ⟨q,hq,a⟩)
    ·exact .inr ⟨r,by simp,a⟩
    ·exact .inl a
    ·exact .inr ⟨q,CQ _ hq,a⟩
   ·rintro (a | ⟨q,hq,a⟩)
    ·exact .inl (.inr a)
    ·rcases Ck.1 hq with rfl | hq
     ·exact .inl (.inl a)
     ·exact .inr ⟨q,hq,a⟩
theorem qB4 {s:Src} {d:Dcl} (h:SrcOk s) (hd0:dclE s.sch d=0) (r:List Int):r∈ownR s d↔r∈s.rows∧ownP s d r=true:=by
 unfold ownR;rw[Aq (by rw[qp4.2 h,hd0];simp),Fz]
theorem jM0 {s:Src} {d:Dcl} {k:Int} (h:SrcOk s) (hk:0≤k∧k<1152921504606846976):(ownR s d).Pairwise fun a b=>keyI k (hd a)≠keyI k (hd b):=by
 unfold ownR;split
 ·exact List.Pairwise.nil
 ·refine List.Pairwise.filter _ ?_;refine List.Pairwise.imp_of_mem ?_ h.asc;intro a b ha hb hab e;have h1:=jI9 (h.rows a ha);have h2:=jI9 (h.rows b hb);have:=kh9 hk (by omega) (by omega) e;omega
theorem Kz {s:Src} {d:Dcl} {l:List Pk} {k:Int} (h:SrcOk s) (hd0:dclE s.sch d=0) (hk:0≤k∧k<1152921504606846976) (x:List Int) :
 x∈Ze s d l k↔∃ r∈s.rows,ownP s d r=true∧x=rowX s l k r:=by
 unfold Ze;rw[zW2 s l k _ [] List.Pairwise.nil (jM0 h hk) (by simp)];constructor
 ·rintro (a | ⟨r,hr,e⟩)
  ·simp at a
  ·obtain⟨h1,h2⟩:=(qB4 h hd0 r).1 hr;exact⟨r,h1,h2,e⟩
 ·rintro ⟨r,h1,h2,e⟩;exact .inr ⟨r,(qB4 h hd0 r).2 ⟨h1,h2⟩,e⟩
end Go.Proofs
namespace Go.Proofs
open Go Go.TL
set_option maxRecDepth 4000
set_option maxHeartbeats 8000000
end Go.Proofs
namespace Go.Proofs
open Go Go.TL
set_option maxRecDepth 4000
set_option maxHeartbeats 8000000
open So
end Go.Proofs
namespace Go.Proofs
open Go Go.TL
set_option maxRecDepth 4000
set_option maxHeartbeats 8000000
theorem SrcOk.rw {s:Src} (h:SrcOk s):RwId s.rows:=⟨h.asc,fun r hr=>QZ (h.rows r hr),fun r hr=>jI9 (h.rows r hr),by have:=h.nr;omega⟩
end Go.Proofs
namespace Go.Proofs
open Go Go.TL
set_option maxRecDepth 4000
set_option maxHeartbeats 8000000
end Go.Proofs
namespace Go.Proofs
open Go Go.TL
set_option maxRecDepth 4000
set_option maxHeartbeats 8000000
end Go.Proofs
namespace Go.Proofs
open Go Go.TL
set_option maxRecDepth 4000
set_option maxHeartbeats 8000000
end Go.Proofs
namespace Go.Proofs
open Go Go.TL
set_option maxRecDepth 4000
set_option maxHeartbeats 8000000
end Go.Proofs
namespace Go.Proofs
open Go Go.TL
set_option maxRecDepth 4000
set_option maxHeartbeats 8000000
open So
theorem jM1 {xs:List (List Int)} {i:Nat} (h:i<xs.length):(xs.map vIs).getD i .junk=vIs (gd xs i):=by rw[zw3 h];exact qe h
theorem ki0 (x y:List Int):repl (vIs x) 0 (vIs y)=vIs y:=rfl
theorem ki1 (x:List Int):(vIs x).cells.getD 0 .junk=vIs x:=rfl
theorem ko1 (xs:List (List Int)) (i:Nat) (v:List Int):(xs.map vIs).set i (vIs v)=(xs.set i v).map vIs:=List.map_set.symm
theorem ko2 (xs:List (List Int)) (i j:Nat):((xs.set i (gd xs j)).set j (gd xs i))=swp xs i j:=rfl
theorem gd_mem {xs:List (List Int)} {i:Nat} (h:i<xs.length):gd xs i∈xs:=by rw[zw3 h];exact AX h
section
variable (cv:List Int→List Int→Int) (P:List Int→Prop) (f:FuncId) (hf:∀ x y,P x→P y→Spc Tryz.prog f [vIs x,vIs y] [] (vI (cv x y)) [])
abbrev ltV (x y:List Int):Bool:=decide (cv x y<0)
include hf in
theorem Qg (xs:List (List Int)) (hP:∀ x∈xs,P x) (a b:Nat) (hab:a≤b) (hb:b≤xs.length) (hl:xs.length<4611686018427387904) :
 Spc Tryz.prog zo [.asl 0 xs.length,vI a,vI b,.clo f []] [(0,.arr 1 (xs.map vIs) false)] (.tup []) [(0,.arr 1 ((insS (ltV cv) xs a b).map vIs) false)]:=by
 have hw:=qj (i:=a) (by omega);refine qd yQ mixm (by simp) fun e _ hst=>qg ?_;unfold zm;simp only[tZ,↓un_u,simprocAttr,hw];refine qu mixm (α:=List (List Int)×Nat) [8] (fun q=>q.1.length=xs.length∧a+1≤q.2∧(q.2≤b∨q.2=a+1)∧insF (ltV cv) a (b-q.2) q.2 q.1=insS (ltV cv) xs a b∧∀ x∈q.1,P x) (fun q=>[(8,vI q.2)]) (fun q=>[(0,.arr 1 (q.1.map vIs) false)]) (fun q=>b-q.2) (xs,a+1) ⟨rfl,BZ _,.inr rfl,rfl,hP⟩ ?_ fun q hq=>?_
 ·exact .oA [(0,some 0)] []
 obtain⟨ys,i⟩:=q;obtain⟨h1,h2,h3,h4,hPy⟩:=hq;dsimp only at h1 h2 h3 h4 hPy;simp only[tZ,↓un_u,simprocAttr,AZ,Ay];refine⟨fun h5=>?_,fun h5=>?_⟩
 ·have hi2:i<b:=by omega
  rw[show b-i=(b-(i+1))+1 by omega,insF] at h4;refine qu mixm (α:=List (List Int)×Nat) [9] (fun q=>q.1.length=xs.length∧a≤q.2∧q.2≤i∧insJ (ltV cv) a q.2 q.1=insJ (ltV cv) a i ys∧∀ x∈q.1,P x) (fun q=>[(9,vI q.2)]) (fun q=>[(0,.arr 1 (q.1.map vIs) false)]) (fun q=>q.2) (ys,i) ⟨h1,by omega,BZ _,rfl,hPy⟩ ?_ fun q hq=>?_
  ·exact .oA [(0,some 0)] []
  obtain⟨zs,j⟩:=q;obtain⟨g1,g2,g3,g4,hPz⟩:=hq;dsimp only at g1 g2 g3 g4 hPz;by_cases hj:a<j
  ·obtain⟨j,rfl⟩:∃ k,j=k+1:=⟨j-1,by omega⟩;have hwj:IntKind.i64.wrap (((j+1:Nat):Int)-1)=(j:Int):=by rw[AK _ (by omega)];omega
   have hd:decide (((j+1:Nat):Int)>a)=true:=by simp;omega
   have hc:=hf (gd zs (j+1)) (gd zs j) (hPz _ (gd_mem (by omega))) (hPz _ (gd_mem (by omega)));simp only[tZ,↓un_u,simprocAttr,hwj,hd,Ax,jM1 (show j<zs.length by omega),jM1 (show j+1<zs.length by omega)];refine⟨⟨g1,by omega,by omega⟩,⟨g1,by omega⟩,⟨g1,by omega,by omega⟩,⟨g1,by omega⟩,?_⟩;refine C2.one (by trivial) (C1.im hc (by rfl) (by rfl) ?_);have hsl:(zs.set (j+1) (gd zs j)).length=zs.length:=Fw;simp only[tZ,↓un_u,simprocAttr,hwj,Ax,jM1 (show j<zs.length by omega),jM1 (show j+1<zs.length by omega),ki0,ki1,ko1,jM1 (show j<(zs.set (j+1) (gd zs j)).length by omega),ko2];have hin:insJ (ltV cv) a (j+1) zs=if a<j+1∧ltV cv (gd zs (j+1)) (gd zs j)=true then insJ (ltV cv) a j (swp zs (j+1) j) else zs:=rfl
   refine⟨by kernel_rfl,fun h6=>?_,fun h6=>?_⟩
   ·refine⟨⟨g1,by omega,by omega⟩,⟨g1,by omega⟩,⟨g1,by omega,by omega⟩,⟨g1,by omega⟩,⟨g1,by omega,by omega⟩,⟨g1,by omega⟩,⟨by omega,by omega,by omega⟩,⟨by omega,by omega⟩,by kernel_rfl,(swp zs (j+1) j,j),⟨by dsimp only;rw[zz9];exact g1,by dsimp only;omega,by dsimp only;omega,?_,fun x hx=>hPz x ((jl2 (by omega) (by omega)).mem_iff.1 hx)⟩,by dsimp only;omega,?_⟩
    ·rw[← g4,hin,Aj ⟨hj,h6⟩]
    ·exact .oA [(0,some 0)] []
   ·rw[hin,Aq (fun e=>by have e2:=e.2;unfold ltV at e2;rw[h6] at e2;cases e2)] at g4;have hwi:=qj (i:=i) (by omega);refine⟨(zs,i+1),⟨g1,by dsimp only;omega,by dsimp only;omega,?_,hPz⟩,by dsimp only;omega,?_⟩
    ·dsimp only;rw[g4];exact h4
    ·rw[hwi];exact .oA [(0,some 0)] []
  ·have hd:decide ((j:Int)>a)=false:=by simp;omega
   have hwi:=qj (i:=i) (by omega);have hin:insJ (ltV cv) a j zs=zs:=by
    cases j with
    | zero=>rfl
    | succ j=>unfold insJ;rw[Aq (fun e=>hj e.1)]
   rw[hin] at g4;simp only[tZ,↓un_u,simprocAttr,hd,hwi];refine C2.no (fun h=>h) ?_;simp only[tZ,↓un_u,simprocAttr,hwi];refine⟨by kernel_rfl,(zs,i+1),⟨g1,by dsimp only;omega,by dsimp only;omega,?_,hPz⟩,by dsimp only;omega,?_⟩
   ·dsimp only;rw[g4];exact h4
   ·exact .oA [(0,some 0)] []
 ·rw[show b-i=0 by omega,insF] at h4;rw[← h4];exact .oA [(0,some 0)] []
theorem kc7 {st:Sto} {B:List Nat} (n:Nat) (ts:List T) (h:imAL ts=true):ltAs st [(0,some 0)] B (.asl 0 n::ts) (.asl 0 n::ts):=⟨by simp [ltA,ltC,ltC0,TL.get],qx0 h⟩
include hf in
theorem qB5 (xs:List (List Int)) (hP:∀ x∈xs,P x) (lim:Nat) (hl:xs.length≤12) :
 Spc Tryz.prog zf [.asl 0 xs.length,vI 0,vI xs.length,vI lim,.clo f []] [(0,.arr 1 (xs.map vIs) false)] (.tup []) [(0,.arr 1 ((insS (ltV cv) xs 0 xs.length).map vIs) false)]:=by
 have hw1:IntKind.i64.wrap ((xs.length:Int)-0)=(xs.length:Int):=by rw[AK _ (by omega)];omega
 have hin:=Qg cv P f hf xs hP 0 xs.length (by omega) (by omega) (by omega);refine Zj [11,16,18] JF mixm (by simp) fun e _ hst=>qg ?_;unfold zN;simp only[YV,List.contains_cons,List.contains_nil,Nat.reduceBEq,Bool.or_false,Bool.or_true,Bool.true_or,Bool.false_or,cond_true,cond_false];refine sW ?_;refine qu mixm (α:=Unit) [1,2,3,10,11] (fun _=>True) (fun _=>[(1,vI 0),(2,vI xs.length),(3,vI lim),(10,vB true),(11,vB true)]) (fun _=>[(0,.arr 1 (xs.map vIs) false)]) (fun _=>0) () trivial ?_ fun q hq=>?_
 ·exact .oA [(0,some 0)] []
 simp only[tZ,↓un_u,simprocAttr,AZ,Ay,hw1];refine⟨fun h8=>?_,fun h8=>absurd (show (xs.length:Int)≤12 by omega) h8⟩;refine C1.upd 0 1 _ _ hin (by rfl) (by apply qE;intro _;exact⟨rfl,rfl⟩) (by apply qE;intro _;exact⟨rfl,rfl⟩) (kc7 _ _ (by rfl)) (by rfl) ?_;refine sW ?_;exact .oA [(0,some 0)] []
include hf in
theorem qj5 (xs:List (List Int)) (hP:∀ x∈xs,P x) (hl:xs.length≤12):∃ ys,(ys.Perm xs∧(SWOrd (ltV cv)→Srt (ltV cv) ys 0 xs.length))∧
 Spc Tryz.prog kN [.asl 0 xs.length,.clo f []] [(0,.arr 1 (xs.map vIs) false)] (.tup []) [(0,.arr 1 (ys.map vIs) false)]:=by
 obtain⟨lim,hlim,hs⟩:=zk0 xs.length (by omega);refine⟨insS (ltV cv) xs 0 xs.length,⟨(kf7 (ltV cv) xs (Nat.zero_le _) (BZ _)).perm,fun ho=>jS5 ho xs (Nat.zero_le _) (BZ _)⟩,?_⟩;have hu:IntKind.u64.wrap (xs.length:Int)=(xs.length:Int):=by rw[IntKind.wrap_u64];omega
 refine qd qe4 mixm (by simp) fun e _ hst=>qg ?_;unfold kB;simp only[tZ,↓un_u,simprocAttr,hu];refine C1.im hs (by rfl) (by rfl) ?_;refine sW ?_;refine C1.upd 0 1 _ _ (qB5 cv P f hf xs hP lim hl) (by rfl) (by apply qE;intro _;exact⟨rfl,rfl⟩) (by apply qE;intro _;exact⟨rfl,rfl⟩) (kc7 _ _ (by rfl)) (by rfl) ?_;refine sW ?_;exact .oA [(0,some 0)] []
end
end Go.Proofs
namespace Go.Proofs
open Go Go.TL
set_option maxRecDepth 4000
set_option maxHeartbeats 8000000
open So
def bidV (x y:List Int):Int:=hd x-hd y
theorem jM2 (x y:List Int):ltV bidV x y=decide (hd x<hd y):=by
 unfold ltV bidV;exact decide_eq_decide.2 (by omega)
theorem ki2:SWOrd (ltV bidV):=by
 refine⟨fun x y h=>?_,fun x y z h1 h2=>?_⟩
 ·rw[jM2] at h ⊢
  have:=of_decide_eq_true h;exact Cq (by omega)
 ·rw[jM2] at h1 h2 ⊢
  have k1:=of_decide_eq_false h1;have k2:=of_decide_eq_false h2;exact Cq (by omega)
theorem ki3 {ys:List (List Int)} (h:Srt (ltV bidV) ys 0 ys.length) (hn:∀ i,0<i→i<ys.length→hd (ys.getD i default)≠hd (ys.getD (i-1) default)):AscR ys:=by
 refine js1 (f:=hd) fun i h0 hi=>?_;have h1:=h (i-1) i (by omega) (by omega) hi;have h2:=hn i h0 hi;have e1:gd ys i=ys.getD i default:=rfl;have e2:gd ys (i-1)=ys.getD (i-1) default:=rfl;unfold lew at h1;rw[e1,e2,jM2] at h1;have:=of_decide_eq_false h1;omega
end Go.Proofs
namespace Go.Proofs
open Go Go.TL
set_option maxRecDepth 4000
set_option maxHeartbeats 8000000
open So
theorem jo2 {s:Sch} {d:Dcl} (h:dclE s d=0):chkC s d.coh=0∧nodE s d.coh=0:=by
 have h1:=(qP3 h).2.2.2.1;exact⟨h1,(qo9 h1).2.2.2⟩
theorem ki4 {s:Src} {d:Dcl} (h:SrcOk s) (hd0:dclE s.sch d=0) {r:List Int} (hr:r∈s.rows):(inS d.smp (hd r)&&(evC s.sch r d.coh==1))=ownP s d r:=by
 have h1:=(jo2 hd0).1;have h2:=h.rows r hr;rw[ownP,zh7,Aq (by omega),Bool.and_comm]
theorem qq2 (s:Src) (d:Dcl) (h:SrcOk s) (hd0:dclE s.sch d=0):Spc Tryz.prog Qn [srcT s,dclT d] [] (vRw (s.rows.filter (ownP s d))) []:=by
 have hok:=h;have hrp:=hok.rowp;have hnr:=hok.nr;have hn:=(jo2 hd0).2;have hsc:=qR hok.sch;refine qd qU5 mixm (by simp) fun e _ hst=>qg ?_;unfold Jy;refine sW ?_;refine qu mixm (α:=Nat) [5,11] (fun i=>i≤s.rows.length) (fun i=>[(5,.asl 1 ((s.rows.take i).filter (ownP s d)).length),(11,vI i)]) (fun i=>[(4096,.arr 5 [srcT s] false),(4100,.arr 12 [dclT d] false),(1,.arr 1 (((s.rows.take i).filter (ownP s d)).map vIs) false)]) (fun i=>s.rows.length-i) 0 (by omega) ?_ fun i hi=>?_
 ·exact .oA [(4096,some 4096),(4100,some 4100),(1,none)] []
 have hfl:=Fx (ownP s d) (s.rows.take i);rw[Cz] at hfl;refine sD ?_;refine⟨fun h2=>?_,fun h2=>?_⟩
 ·have hi2:i<s.rows.length:=by omega
  have hwi:=qj (i:=i) (by omega);have hgi:=zZ (hrp _ (AX hi2));have hrpi:=hrp _ (AX hi2);have hsp:(s.rows.take (i+1)).filter (ownP s d)=(s.rows.take i).filter (ownP s d)++if ownP s d s.rows[i]=true then [s.rows[i]] else []:=by
   rw[qH hi2,FY,List.filter_cons,List.filter_nil]
  have hP:(inS d.smp (hd s.rows[i])&&(evC s.sch s.rows[i] d.coh==1))=ownP s d s.rows[i]:=ki4 h hd0 (AX hi2);have hI:=jc2 d.smp (hd s.rows[i]);have hH:=qR1 s.sch hsc s.rows[i] (qg2 (hok.rows _ (AX hi2))).2.1 d.coh hn;simp only[tZ,↓un_u,simprocAttr,Ax,qe hi2,hgi];refine⟨by omega,by omega,?_⟩;refine C1.im hI (by rfl) (by rfl) ?_;simp only[tZ,↓un_u,simprocAttr,Ax,qe hi2,hgi];refine C2.im (fun _=>hH) (fun _=>rfl) (by rfl) ?_;refine sW ?_;rw[hP];refine⟨by kernel_rfl,fun h3=>?_,fun h3=>?_⟩
  ·rw[Aj h3] at hsp;have hspl:=congrArg List.length hsp;simp only[AW,CJ,Cw] at hspl;simp only[tZ,↓un_u,simprocAttr,Ax,qe hi2,hwi];refine⟨by omega,i+1,by omega,by omega,?_⟩;rw[hsp];exact .oA [(4096,some 4096),(4100,some 4100),(1,some 1)] []
  ·rw[Aq (by rw[h3];simp),CW] at hsp;simp only[tZ,↓un_u,simprocAttr,hwi];refine⟨i+1,by omega,by omega,?_⟩;rw[hsp];exact .oA [(4096,some 4096),(4100,some 4100),(1,some 1)] []
 ·have hil:i=s.rows.length:=by omega
  subst hil;rw[Bw];exact .oA [] [1]
theorem qY5 (s:Src) (d:Dcl) (hs:jb3 s):Spc Tryz.prog Jo [srcT s,dclT d] [] (vIs (ownS s d)) []:=by
 have hV:=qw0 s hs.1.2.1 hs.1.1 hs.2;refine qd qM6 mixm (by simp) fun e _ hst=>qg ?_;unfold Zy;refine sW ?_;refine C1.im hV (by rfl) (by rfl) ?_;refine sW ?_;refine C2.im (fun _=>WA s.sch hs.1 d) (fun _=>rfl) (by rfl) ?_;simp only[tZ,↓un_u,simprocAttr,tD,Bj,Aw,Bx,Bz];refine⟨fun h=>?_,fun h=>?_⟩
 ·rw[ownS,ownR,Aj h];exact .oA [] []
 have hok:=qp4.1 h.1;have hrp:=hok.rowp;have hnr:=hok.nr;have hO:=qq2 s d hok (by omega);rw[ownS,ownR,Aq (by grind)];have hfl:=Fx (ownP s d) s.rows;have hRp:∀ r∈s.rows.filter (ownP s d),0<r.length:=fun r hr=>hrp r (Fz.1 hr).1;generalize s.rows.filter (ownP s d)=R at hO hfl hRp ⊢
 refine C1.im hO (by rfl) (by rfl) ?_;refine sW ?_;refine qu mixm (α:=Nat) [5,22] (fun i=>i≤R.length) (fun i=>[(5,.asl 1 i),(22,vI i)]) (fun i=>[(1,.arr 1 (((R.take i).map hd).map vI) false)]) (fun i=>R.length-i) 0 (by omega) ?_ fun i hi=>?_
 ·exact .oA [(1,none)] []
 have htl:((R.take i).map hd).length=i:=by rw[BY,Cz];omega
 refine sD ?_;refine⟨fun h2=>?_,fun h2=>?_⟩
 ·have hi2:i<R.length:=by omega
  have hwi:=qj (i:=i) (by omega);have hgi:=zZ (hRp _ (AX hi2));have hrpi:=hRp _ (AX hi2);have hsp:(R.take (i+1)).map hd=(R.take i).map hd++[hd R[i]]:=by rw[qH hi2,By];rfl
  have htl2:(R.take i).length=i:=by rw[Cz];omega
  simp only[tZ,↓un_u,simprocAttr,Ax,qe hi2,hgi,hwi];refine⟨by omega,by omega,by omega,i+1,by omega,by omega,?_⟩;rw[hsp];exact .oA [(1,some 1)] []
 ·have hil:i=R.length:=by omega
  subst hil;rw[Bw];exact .oA [] [1]
theorem kp6 {k:Int→Int} {ys:List (List Int)} (h:Srt (ltV bidV) ys 0 ys.length) (hn:(ys.map hd).Nodup):AscR ys:=by
 refine ki3 h fun i h0 hi e=>?_;have hi2:i<(ys.map hd).length:=by rw[BY];exact hi
 have hi3:i-1<(ys.map hd).length:=by omega
 have:=(DX.1 hn) (i-1) i hi3 hi2 (by omega);rw[Fj,Fj] at this;rw[qh hi,qh (by omega)] at e;exact this e.symm
def keyP (x:List Int):Prop:=0<x.length∧0≤hd x∧hd x≤1048575
theorem qR3 (x y:List Int) (hx:keyP x) (hy:keyP y):Spc Tryz.prog wE [vIs x,vIs y] [] (vI (bidV x y)) []:=by
 have h1:=zZ hx.1;have h2:=zZ hy.1;have a1:=hx.1;have a2:=hy.1;have hw:IntKind.i64.wrap (hd x-hd y)=hd x-hd y:=AK _ (by have:=hx.2;have:=hy.2;omega);refine qd qE8 mixm (by simp) fun e _ hst=>qg ?_;unfold QF;simp only[tZ,↓un_u,simprocAttr,h1,h2,hw];refine⟨by omega,by omega,by kernel_rfl,?_⟩;rw[show bidV x y=hd x-hd y from rfl];exact .oA [] []
theorem jM3 {k n:Int} (hk:0≤k∧k<1152921504606846976) (hn:0≤n∧n<1048576):0≤keyI k n∧keyI k n≤1048575:=by
 have h1:JV k n=true:=by simp [JV];omega
 have h3:=zU6 (Wq (s:=k) (qp5 hn) 8);have h4:keyI k n=tie (fwd k 8 (cut n)):=by rw[keyI,Aj h1]
 omega
theorem key0 (k:Int):(keyI k 0<0)↔(k<0∨k≥1152921504606846976):=by
 by_cases h:0≤k∧k<1152921504606846976
 ·have:=jM3 h (n:=0) (by omega);omega
 ·have h1:JV k 0=false:=by simp [JV];omega
  rw[keyI,Aq (by rw[h1];simp)];omega
theorem jM4 {s:Src} {d:Dcl} {l:List Pk} {k:Int} (h:SrcOk s) (hd0:dclE s.sch d=0) (hk:0≤k∧k<1152921504606846976) {ys:List (List Int)} (hp:ys.Perm ((s.rows.filter (ownP s d)).map (rowX s l k))) (hso:Srt (ltV bidV) ys 0 ys.length):ys=Ze s d l k:=by
 have hR:ownR s d=s.rows.filter (ownP s d):=by unfold ownR;rw[Aq (by rw[qp4.2 h,hd0];simp)]
 have hpw:=jM0 (d:=d) h hk;rw[hR] at hpw;have hnd:(ys.map hd).Nodup:=by
  rw[(hp.map hd).nodup_iff];rw[Gz];exact List.pairwise_map.2 (hpw.imp fun h=>h)
 have hA:=kp6 (k:=fun x=>x) hso hnd;obtain⟨q1,_,_⟩:=zk1 s l k (ownR s d) [] List.Pairwise.nil (by simp);refine jn5 hA q1 fun x=>?_;rw[hp.mem_iff];have:=Kz (l:=l) h hd0 hk x;rw[this,Cj];constructor
 ·rintro ⟨r,hr,rfl⟩;obtain⟨a,b⟩:=Fz.1 hr;exact⟨r,a,b,rfl⟩
 ·rintro ⟨r,a,b,rfl⟩;exact⟨r,Fz.2 ⟨a,b⟩,rfl⟩
end Go.Proofs
namespace Go.Proofs
open Go Go.TL
set_option maxRecDepth 4000
set_option maxHeartbeats 8000000
open So
theorem WB (s:Src) (d:Dcl) (l:List Pk) (k:Int) (hs:jb3 s) (h12:s.rows.length≤12) (hl:l.length<4611686018427387904):Spc Tryz.prog jU [srcT s,dclT d,vPs l,vI k] [] (.tup [extT (qT2 s d l k),vI (buildE s d l k)]) []:=by
 have hE:=(rfl:buildE s d l k=buildE s d l k);have hS:qT2 s d l k=if buildE s d l k≠0 then ext0 else ⟨d.proj,s.ver,l,Ze s d l k⟩:=rfl
 conv at hE=>rhs;unfold buildE
 have hbad:∀ v,v≠0→buildE s d l k=v→qT2 s d l k=ext0∧buildE s d l k=v:=fun v h1 h2=>⟨by rw[hS,h2,Aj h1],h2⟩;have hgood:buildE s d l k=0→qT2 s d l k=⟨d.proj,s.ver,l,Ze s d l k⟩:=fun h=>by rw[hS,h,Aq (by simp)]
 clear hS;generalize buildE s d l k=E at hE hbad hgood ⊢
 generalize qT2 s d l k=A at hbad hgood ⊢
 have hV:=qw0 s hs.1.2.1 hs.1.1 hs.2;refine Zj [18] qT8 mixm (by simp) fun e _ hst=>qg ?_;unfold Jv;simp only[YV,List.contains_cons,List.contains_nil,Nat.reduceBEq,Bool.or_false,Bool.or_true,Bool.true_or,Bool.false_or,cond_true,cond_false];refine sW ?_;refine C1.im hV (by rfl) (by rfl) ?_;simp only[tZ,↓un_u,simprocAttr,Bx,Bz];refine⟨fun h=>?_,fun h=>?_⟩
 ·obtain⟨a1,a2⟩:=hbad 13 (by decide) (by rw[hE,Aj h]);rw[a1,a2];exact .oA [] []
 rw[Aq (by rw[h];simp)] at hE;have hok:=qp4.1 h;refine C1.im (qY3 s.sch hs.1 d l hl) (by rfl) (by rfl) ?_;simp only[tZ,↓un_u,simprocAttr,Bj,Aw];refine⟨fun h2=>?_,fun h2=>?_⟩
 ·obtain⟨a1,a2⟩:=hbad _ h2 (by rw[hE,Aj h2]);rw[a1,a2];exact .oA [] []
 rw[Aq (by rw[h2];simp)] at hE;obtain⟨hd0,hp0⟩:=jU1 h2;refine C1.im (qp6 k 0) (by rfl) (by rfl) ?_;simp only[tZ,↓un_u,simprocAttr,tD,key0];refine⟨fun h3=>?_,fun h3=>?_⟩
 ·obtain⟨a1,a2⟩:=hbad 2 (by decide) (by rw[hE,Aj h3]);rw[a1,a2];exact .oA [] []
 rw[Aq h3] at hE;have hk:0≤k∧k<1152921504606846976:=by omega
 have a1:=hgood hE;rw[a1,hE];clear hbad hgood;have hpl:=qI7 hp0;obtain⟨_,hpk,_⟩:=qa9 hp0;refine C1.im (Wv l (by omega)) (by rfl) (by rfl) ?_;have hO:=qq2 s d hok hd0;have hoR:∀ r∈s.rows.filter (ownP s d),r∈s.rows:=fun r hr=>(Fz.1 hr).1;have hol:(s.rows.filter (ownP s d)).length≤12:=FZ (Fx _ _) h12;have hBS:=fun ys=>jM4 (ys:=ys) (l:=l) hok hd0 hk;generalize s.rows.filter (ownP s d)=R at hO hoR hol hBS ⊢
 refine sW ?_;refine⟨by kernel_rfl,?_⟩;refine C1.im hO (by rfl) (by rfl) ?_;refine sW ?_;have hrX:∀ r∈R,0<r.length∧r.length=s.sch.cols.length∧keyP (rowX s l k r):=fun r hr=>by
  have h1:=hok.rows _ (hoR r hr);have h2:=jI9 h1;have h3:=jM3 (n:=hd r) hk (by omega);exact⟨QZ h1,(qg2 h1).2.1,jU2 s l k r,h3⟩
 refine qu mixm (α:=Nat) [45] (fun i=>i≤R.length) (fun i=>[(45,vI i)]) (fun i=>[(4096,.arr 5 [srcT s] false),(4104,.arr 4 [extT ext0] false),(36892,.arr 4 [.agg [vS d.proj,vI s.ver,vPs l,.asl 1 i]] false),(1,.arr 1 (((R.take i).map (rowX s l k)).map vIs) false)]) (fun i=>R.length-i) 0 (by omega) ?_ fun i hi=>?_
 ·exact .oA [(4096,some 4096),(4104,some 4104),(36892,some 36892),(1,none)] []
 have htl:((R.take i).map (rowX s l k)).length=i:=by rw[BY,Cz];omega
 refine sD ?_;refine⟨fun h4=>?_,fun h4=>?_⟩
 ·have hi2:i<R.length:=by omega
  have hwi:=qj (i:=i) (by omega);have hrXs:(R.take (i+1)).map (rowX s l k)=(R.take i).map (rowX s l k)++[rowX s l k R[i]]:=by rw[qH hi2,By];rfl
  obtain⟨hrp,hrl,hrk⟩:=hrX _ (AX hi2);have hKey:=qp6 k (hd R[i]);have hgi:=zZ hrp;have hX:rowX s l k R[i]=keyI k (hd R[i])::l.map fun p=>qK s.sch p.col p.lev (R[i].getD p.col.toNat 0):=rfl;simp only[tZ,↓un_u,simprocAttr,Ax,qe hi2];refine⟨by omega,?_⟩;generalize R[i]=r at hrXs hrp hrl hrk hKey hgi hX ⊢
  simp only[tZ,↓un_u,simprocAttr,hgi];refine⟨by omega,?_⟩;refine C1.im hKey (by rfl) (by rfl) ?_;refine sW ?_;refine qu mixm (α:=Nat) [14,57] (fun n=>n≤l.length) (fun n=>[(14,.asl 53268 (n+1)),(57,vI n)]) (fun n=>[(4096,.arr 5 [srcT s] false),(4104,.arr 4 [extT ext0] false),(36892,.arr 4 [.agg [vS d.proj,vI s.ver,vPs l,.asl 1 i]] false),(1,.arr 1 (((R.take i).map (rowX s l k)).map vIs) false),(53268,.arr 1 ((keyI k (hd r)::(l.take n).map fun p=>qK s.sch p.col p.lev (r.getD p.col.toNat 0)).map vI) false)]) (fun n=>l.length-n) 0 (by omega) ?_ fun n hn=>?_
  ·exact .oA [(4096,some 4096),(4104,some 4104),(36892,some 36892),(1,some 1),(53268,some 53268)] []
  have hnl:(l.take n).length=n:=by rw[Cz];omega
  refine sD ?_;refine⟨fun h5=>?_,fun h5=>?_⟩
  ·have hn2:n<l.length:=by omega
   have hwn:=qj (i:=n) (by omega);have hpn:=qg4 (hpk _ (AX hn2));have hcl:l[n].col.toNat<r.length:=by omega
   have hgc:(r.map vI).getD l[n].col.toNat .junk=vI (r.getD l[n].col.toNat 0):=by rw[qe hcl,qh hcl]
   simp only[tZ,↓un_u,simprocAttr,Ax,qe hn2,hgc];refine⟨by omega,by omega,?_⟩;refine C1.im (zj5 s.sch hs.1 l[n].col l[n].lev _) (by rfl) (by rfl) ?_;simp only[tZ,↓un_u,simprocAttr,hwn];refine⟨⟨hnl,by omega⟩,by kernel_rfl,n+1,by omega,by omega,?_⟩;rw[qH hn2,By];exact .oA [(4096,some 4096),(4104,some 4104),(36892,some 36892),(1,some 1),(53268,some 53268)] []
  ·have hnl2:n=l.length:=by omega
   subst hnl2;rw[Bw,← List.map_cons (f:=vI),← hX];have hXl:(rowX s l k r).length=l.length+1:=by rw[rowX,CJ,BY]
   have htl2:(R.take i).length=i:=by rw[Cz];omega
   rw[← hXl];refine W_le [(2,vPs l),(3,vI k),(4,.ptr 4096 1 0 0),(8,.ptr 4104 1 0 0),(11,.ptr 36892 1 0 0),(14,vIs (rowX s l k r)),(43,vRw R),(44,vI R.length),(45,vI i)] [(4096,.arr 5 [srcT s] false),(4104,.arr 4 [extT ext0] false),(36892,.arr 4 [.agg [vS d.proj,vI s.ver,vPs l,.asl 1 i]] false),(1,.arr 1 (((R.take i).map (rowX s l k)).map vIs) false)] ?_ ?_
   ·exact .oA [(4096,some 4096),(4104,some 4104),(36892,some 36892),(1,some 1)] [53268]
   simp only[tZ,↓un_u,simprocAttr,hwi];refine⟨⟨htl2,by omega⟩,htl2,i+1,by omega,by omega,?_⟩;rw[hrXs,By];exact .oA [(4096,some 4096),(4104,some 4104),(36892,some 36892),(1,some 1)] []
 ·have hil:i=R.length:=by omega
  subst hil;rw[Bw];rw[Bw] at htl;obtain⟨ys,⟨hp,hso⟩,hSF⟩:=qj5 bidV keyP wE (fun x y hx hy=>qR3 x y hx hy) (R.map (rowX s l k)) (fun x hx=>by
   obtain⟨r,hr,rfl⟩:=Cj.1 hx;exact (hrX r hr).2.2) (by omega)
  have hso:=hso ki2;have hpl2:=hp.length_eq;rw[← hpl2] at hso;have hy:=hBS ys hp hso;rw[htl] at hSF;refine C1.upd 1 1 _ _ hSF (by rfl) (by apply qE;intro _;exact⟨rfl,rfl⟩) (by apply qE;intro _;exact⟨rfl,rfl⟩) ⟨by simp [ltA,ltC,ltC0,TL.get],qx0 (by rfl)⟩ (by rfl) ?_;refine sW ?_;have hyl:ys.length=R.length:=by rw[hpl2,BY]
  refine⟨hyl,?_⟩;rw[← hy,← hyl];exact .oA [] [1]
end Go.Proofs
namespace Go.Proofs
open Go Go.TL
set_option maxRecDepth 4000
set_option maxHeartbeats 8000000
def Qb (s:Sch) (q:Qst) (k:Nat) (lev:Int) (x y:Int):Prop:=qK s k lev x=qK s k lev y∧kp5 s q k x y=true
structure FirstV (s:Sch) (q:Qst) (k:Nat) (lev:Int) (x y:Int):Prop where
 hx:jo s k x=true
 hy:jo s k y=true
 lt:x<y
 qb:Qb s q k lev x y
 least:∀ x' y',jo s k x'=true→jo s k y'=true→x'<y'→Qb s q k lev x' y'→x<x'∨(x=x'∧y≤y')
structure LeastX (s:Sch) (q:Qst) (k:Nat) (lev:Int) (x:Int):Prop where
 lo:(qk s k).low<x
 hi:x≤(qk s k).high
 qb:Qb s q k lev (x-1) x
 least:∀ y,(qk s k).low<y→y<x→¬ Qb s q k lev (y-1) y
theorem jM5 {s:Sch} {q:Qst} (h:qstE s q=0) {k:Nat} (hk:k<s.cols.length):mxl (yS s q) k=mxl (zj8 s q) k:=by
 rw[qs1 h,zH4 fun k=>qq0 _ _,Aj hk]
end Go.Proofs
namespace Go.Proofs
open Go Go.TL
set_option maxRecDepth 4000
set_option maxHeartbeats 8000000
def qw3 (L:List Int) (f g:Int→Int) (v:Int):Int×Bool:=match L.filter (fun x=>f x==v) with
 | []=>(0,false)
 | x::r=>if (r.all fun y=>g y==g x)=true then (g x,true) else (0,false)
theorem jc3 {L:List Int} {f:Int→Int} {v:Int} {i:Nat} (h:i<L.length):(L.take (i+1)).filter (fun x=>f x==v)=(L.take i).filter (fun x=>f x==v)++if (f L[i]==v)=true then [L[i]] else []:=by
 rw[qH h,FY]
 congr 1
 split
 ·rename_i h2;rw[List.filter_cons_of_pos (p:=fun x=>f x==v) h2];rfl
 ·rename_i h2;rw[List.filter_cons_of_neg (p:=fun x=>f x==v) h2];rfl
def TcI (g:Int→Int) (M:List Int) (o:Int) (b:Bool):Prop:=(M=[]∧o=0∧b=false)∨∃ x r,M=x::r∧(∀ y∈r,g y=g x)∧o=g x∧b=true
theorem TcI.fin {L:List Int} {f g:Int→Int} {v o:Int} {b:Bool} (h:TcI g (L.filter fun x=>f x==v) o b):qw3 L f g v=(o,b):=by
 unfold qw3;rcases h with⟨h1,h2,h3⟩ | ⟨x,r,h1,h2,h3,h4⟩
 ·rw[h1,h2,h3]
 ·rw[h1,h3,h4];dsimp only;rw[Aj (Bk.2 fun y hy=>AY.2 (h2 y hy))]
theorem js7 {L:List Int} {f g:Int→Int} {v:Int} {i:Nat} (h:i<L.length) {o:Int} (hI:TcI g ((L.take i).filter fun x=>f x==v) o true) (h1:(f L[i]==v)=true) (h2:g L[i]≠o):qw3 L f g v=(0,false):=by
 rcases hI with⟨_,_,h3⟩ | ⟨x,r,h3,h4,h5,_⟩
 ·cases h3
 ·have hL:L.filter (fun x=>f x==v)=x::(r++L[i]::(L.drop (i+1)).filter fun x=>f x==v):=by
   conv=>lhs;rw[← List.take_append_drop i L,FY,h3,zE7 h,List.filter_cons_of_pos (p:=fun x=>f x==v) h1]
   simp
  unfold qw3;rw[hL];dsimp only;rw[Aq];intro k;have:=Bk.1 k L[i] (by simp);rw[AY,← h5] at this;exact h2 this
theorem qR4 (l:CodL) (hl:lstE l=0) (a v b:Int):Spc Tryz.prog Zu [cdlT l,vI a,vI v,vI b] [] (.tup [vI (qw3 (atL l (zh l-1)) (fun x=>upC l x a) (fun x=>upC l x b) v).1,vB (qw3 (atL l (zh l-1)) (fun x=>upC l x a) (fun x=>upC l x b) v).2]) []:=by
 have hlv:=qo5 (l:=l);have hw:IntKind.i64.wrap (zh l-1)=zh l-1:=AK _ (by omega);have hLl:(atL l (zh l-1)).length≤60:=by
  obtain⟨_,d5,d6⟩:=zg hl;unfold atL;rw[Aq (by rw[hl];simp),BY];refine FZ (Fx _ _) ?_;rw[List.length_range];exact d6
 refine qd qG8 mixm (by simp) fun e _ hst=>qg ?_;unfold QP;refine sW ?_;refine C1.im (ZZ l) (by rfl) (by rfl) ?_;simp only[tZ,↓un_u,simprocAttr,hw];refine C1.im (qr8 l (zh l-1)) (by rfl) (by rfl) ?_;generalize atL l (zh l-1)=L at hLl ⊢
 refine sW ?_;refine⟨by kernel_rfl,?_⟩;refine qu mixm (α:=Nat×Int×Bool) [10,11,21] (fun y=>y.1≤L.length∧TcI (fun x=>upC l x b) ((L.take y.1).filter fun x=>upC l x a==v) y.2.1 y.2.2) (fun y=>[(10,vI y.2.1),(11,vB y.2.2),(21,vI y.1)]) (fun y=>[(4096,.arr 2 [cdlT l] false)]) (fun y=>L.length-y.1) (0,0,false) ⟨by simp,.inl ⟨rfl,rfl,rfl⟩⟩ ?_ fun y hy=>?_
 ·exact .oA [(4096,some 4096)] []
 obtain⟨i,o,t⟩:=y;obtain⟨y1,y2⟩:=hy;dsimp only at y1 y2;refine sD ?_;refine⟨fun h3=>?_,fun h3=>?_⟩
 ·have hi2:i<L.length:=by omega
  have hwi:=qj (i:=i) (by omega);have hsp:=jc3 (f:=fun x=>upC l x a) (v:=v) hi2;have hbad:=fun e=>js7 (f:=fun x=>upC l x a) (g:=fun x=>upC l x b) (v:=v) (o:=o) hi2 e;have sU:=fun c=>qb3 l L[i] c;simp only[tZ,↓un_u,simprocAttr,Ax,qe hi2];refine⟨by omega,?_⟩;refine C1.im (sU a) (by rfl) (by rfl) ?_;simp only[tZ,↓un_u,simprocAttr,Bj,Aw,hwi];generalize L[i]=x at hsp hbad sU ⊢
  refine⟨fun h4=>?_,fun h4=>?_⟩
  ·rw[Aq (by rw[AY];exact h4),CW] at hsp;refine⟨(i+1,o,t),⟨by dsimp only;omega,by dsimp only;rw[hsp];exact y2⟩,by dsimp only;omega,?_⟩;exact .oA [(4096,some 4096)] []
  ·rw[Aj (AY.2 h4)] at hsp;refine C1.im (sU b) (by rfl) (by rfl) ?_;simp only[tZ,↓un_u,simprocAttr,tD,Bj,Aw,hwi];refine⟨fun h5=>?_,fun h5=>?_⟩
   ·rw[h5.1] at y2;rw[hbad y2 (AY.2 h4) h5.2];exact .oA [] []
   ·refine⟨(i+1,upC l x b,true),⟨by dsimp only;omega,?_⟩,by dsimp only;omega,?_⟩
    ·dsimp only;rw[hsp];rcases y2 with⟨k1,k2,k3⟩ | ⟨z,r,k1,k2,k3,k4⟩
     ·exact .inr ⟨x,[],by rw[k1];rfl,by simp,rfl,rfl⟩
     ·right
      have hx:upC l x b=o:=by
       rw[k4] at h5;simpa using h5
      refine⟨z,r++[x],by rw[k1];rfl,fun y hy=>?_,by rw[hx,k3],rfl⟩;rcases Dz.1 hy with hy | hy
      ·exact k2 y hy
      ·rw[Ey.1 hy];dsimp only;rw[hx,k3]
    ·exact .oA [(4096,some 4096)] []
 ·have hil:i=L.length:=by omega
  subst hil;rw[Bw] at y2;rw[TcI.fin y2];exact .oA [] []
theorem qY6 (s:Sch) (hE:schE s=0) (k:Nat) (hk:k<s.cols.length) (h0:0<k) (h2:(qk s k).kind=2) (a v b:Int) (ha:0≤a∧a≤finI s k) (hb:0≤b∧b≤finI s k):Spc Tryz.prog wh [schT s,vI k,vI a,vI v,vI b] []
 (let r:=qw3 (qQ s k) (fun x=>upC (qJ s k) x a) (fun x=>upC (qJ s k) x b) v;.tup [vI (if r.2=true then r.1 else 0),vB r.2]) []:=by
 have hok:=qR hE;have hat:qk s k=s.cols[k]:=by rw[qk,qh hk]
 obtain⟨d1,d2⟩:=hok.cdl hk h2;have hls:qQ s k=atL (qJ s k) (zh (qJ s k)-1):=rfl;have hcd:qJ s k=s.lists.getD (qk s k).list.toNat default:=rfl;have hkk:=(za (hok.cs k hk)).2.2.2.1 h2;have sT:=wB s hE k;have e1:decide (a<0)=false:=Cq (by omega);have e2:decide (a>finI s k)=false:=Cq (by omega);have e3:decide (b<0)=false:=Cq (by omega);have e4:decide (b>finI s k)=false:=Cq (by omega);rw[hls];have sC:=qR4 (qJ s k) d2 a v b;generalize qw3 (atL (qJ s k) (zh (qJ s k)-1)) (fun x=>upC (qJ s k) x a) (fun x=>upC (qJ s k) x b) v=r at sC ⊢
 rw[hat] at d1 h2 hcd hkk;rw[hcd,qh d1] at sC;dsimp only;refine qd JC mixm (by simp) fun e _ hst=>qg ?_;unfold kG;refine sW ?_;refine C1.im sT (by rfl) (by rfl) ?_;simp only[tZ,↓un_u,simprocAttr,e1,e2,e3,e4,Ax,qe hk,AY,Ak];generalize s.cols[k]=x at d1 h2 hkk sC ⊢
 refine⟨by omega,fun _=>?_,fun h=>absurd h2 h⟩;simp only[tZ,↓un_u,simprocAttr,qe d1];refine⟨by omega,?_⟩;refine C1.im sC (by rfl) (by rfl) ?_;simp only[tZ,↓un_u,simprocAttr,Bx,Bz];refine⟨fun h=>?_,fun h=>?_⟩
 ·rw[h,Aq (by simp)];exact .oA [] []
 ·rw[h,Aj rfl];exact .oA [] []
theorem zW3 {f:Nat→Int} {n:Nat} {p:Pk} (h:p∈canF f n):0<p.lev∧p.lev=f p.col.toNat∧0≤p.col∧p.col<n:=by
 obtain⟨k,k1,k2,rfl⟩:=Kv.1 h;exact⟨k2,rfl,by dsimp only;omega,by dsimp only;omega⟩
end Go.Proofs
namespace Go.Proofs
open Go Go.TL
set_option maxRecDepth 4000
set_option maxHeartbeats 8000000
open So
def zx4 (c:Col) (a v b:Int):Int×Bool:=
 if 0<a∧v=yk then ((if b=0 then 0 else v),c.opt)
 else if (Ku c a v).2.2=false then (0,false)
 else if b=0 then (0,true)
 else if a=0∧c.opt=true then (0,false)
 else (qG (Ku c a v).1 (qD c b)*qD c b,qG (Ku c a v).1 (qD c b)*qD c b==qG (Ku c a v).2.1 (qD c b)*qD c b)
theorem jM6 {c:Col} {lev v:Int} (h:lev=0∨(1≤qD c lev∧qD c lev≤1000000)) (hc : -1000000≤c.low∧c.low≤c.high∧c.high≤1000000) : -4000000≤(Ku c lev v).1∧(Ku c lev v).1≤4000000∧-4000000≤(Ku c lev v).2.1∧(Ku c lev v).2.1≤4000000:=by
 unfold Ku;split
 ·dsimp only;omega
 ·split
  ·dsimp only;omega
  ·dsimp only;omega
theorem qv2 (c:Col) (a v b:Int) (hc : -1000000≤c.low∧c.low≤c.high∧c.high≤1000000)
 (ha:a=0∨(1≤a∧a≤c.widths.length∧c.widths.length≤4∧1≤qD c a∧qD c a≤1000000))
 (hb:b=0∨(1≤b∧b≤c.widths.length∧c.widths.length≤4∧1≤qD c b∧qD c b≤1000000)) :
 Spc Tryz.prog wU [colT c,vI a,vI v,vI b] [] (.tup [vI (zx4 c a v b).1,vB (zx4 c a v b).2]) []:=by
 have hm:yk = -1099511627776:=rfl;have hT:zx4 c a v b=if 0<a∧v=yk then ((if b=0 then 0 else v),c.opt)
  else if (Ku c a v).2.2=false then (0,false)
  else if b=0 then (0,true)
  else if a=0∧c.opt=true then (0,false)
  else (qG (Ku c a v).1 (qD c b)*qD c b,qG (Ku c a v).1 (qD c b)*qD c b==qG (Ku c a v).2.1 (qD c b)*qD c b):=rfl
 have hS:=qK3 c a v ha;have hr:=jM6 (v:=v) (show a=0∨(1≤qD c a∧qD c a≤1000000) by omega) hc;generalize Ku c a v=z at hT hS hr;obtain⟨lo,hi,ok⟩:=z;dsimp only at hT hS hr;rw[hT];by_cases h1:0<a∧v=yk
 ·rw[Aj h1];have q1:decide (a>0)=true:=Cx h1.1;have q2:(v == -1099511627776)=true:=AY.2 (h1.2.trans hm);refine qd Jh mixm (by simp) fun e _ hst=>qg ?_;unfold jG;simp only[tZ,↓un_u,simprocAttr,q1,q2,AY,Ak];refine⟨fun h=>?_,fun h=>?_⟩
  ·rw[Aj h];refine⟨by kernel_rfl,?_⟩;exact .oA [] []
  ·rw[Aq h];refine⟨by kernel_rfl,?_⟩;exact .oA [] []
 rw[Aq h1];have q1:(decide (a>0)&&(v == -1099511627776))=false:=by
  rw[Bool.eq_false_iff];intro k;rw[Bq,AZ,AY] at k;exact h1 k
 refine qd Jh mixm (by simp) fun e _ hst=>qg ?_;unfold jG;simp only[tZ,↓un_u,simprocAttr,q1];refine C1.im hS (by rfl) (by rfl) ?_;simp only[tZ,↓un_u,simprocAttr,Bx,Bz];refine⟨fun h2=>?_,fun h2=>⟨fun h3=>?_,fun h3=>⟨fun h4=>?_,fun h4=>?_⟩⟩⟩
 ·rw[Aj h2];exact .oA [] []
 ·rw[Aq (by rw[h2];simp),Aj (AY.1 h3)];exact .oA [] []
 ·rw[Bq,AY] at h4;rw[Aq (by rw[h2];simp),Aq (Ak.1 h3),Aj h4];exact .oA [] []
 ·have h5:¬ (a=0∧c.opt=true):=fun k=>by
   rw[← AY,← Bq,h4] at k;cases k
  obtain⟨l1,l2,l3,l4,l5⟩:=hb.resolve_left (Ak.1 h3);have hW:=Ja c b ⟨l1,l2⟩ (by omega);have hD1:=wN lo (qD c b) (by omega) (by omega);have hD2:=wN hi (qD c b) (by omega) (by omega);rw[Aq (by rw[h2];simp),Aq (Ak.1 h3),Aq h5];generalize qD c b=w at hW hD1 hD2 l4 l5 ⊢
  refine C1.im hW (by rfl) (by rfl) ?_;refine sW ?_;refine C1.im hD1 (by rfl) (by rfl) ?_;refine sW ?_;refine C1.im hD1 (by rfl) (by rfl) ?_;refine sW ?_;refine C1.im hD2 (by rfl) (by rfl) ?_;refine sW ?_;exact .oA [] []
theorem jM7 {c:Col} (h:measE c=0) : -1000000≤c.low∧c.low≤c.high∧c.high≤1000000:=by
 unfold measE at h;split at h
 ·cases h
 ·rename_i h1;rw[qo6,qo6] at h1;omega
def zk2 (s:Sch) (c a v b:Int):Int×Bool:=
 if inB a 0 (finI s c)=false∨inB b 0 (finI s c)=false then (0,false)
 else
  let r:=if (qk s c.toNat).kind=2 then qw3 (qQ s c.toNat) (fun x=>upC (qJ s c.toNat) x a) (fun x=>upC (qJ s c.toNat) x b) v else zx4 (qk s c.toNat) a v b
  (if r.2=true then r.1 else 0,r.2)
theorem qq3 (s:Sch) (hE:schE s=0) (c a v b:Int):Spc Tryz.prog wh [schT s,vI c,vI a,vI v,vI b] [] (.tup [vI (zk2 s c a v b).1,vB (zk2 s c a v b).2]) []:=by
 have hok:=qR hE;by_cases hin:inB a 0 (finI s c)=false∨inB b 0 (finI s c)=false
 ·have hT:zk2 s c a v b=(0,false):=by rw[zk2,Aj hin]
  have hsm : -1≤finI s c:=by
   by_cases hc:1≤c∧c<s.cols.length
   ·obtain⟨i,rfl⟩:=AJ (show 0≤c by omega);have:=zH7 hE (k:=i) (by omega) (by omega);omega
   ·rw[finI,Aj (by omega)];omega
  rw[hT];have sT:=wB s hE c;refine qd JC mixm (by simp) fun e _ hst=>qg ?_;unfold kG;refine sW ?_;refine C1.im sT (by rfl) (by rfl) ?_;refine sD ?_;have hh:((a<0∨a>finI s c)∨b<0)∨b>finI s c:=by
   rw[qo6,qo6] at hin;omega
  refine⟨fun _=>?_,fun k=>absurd hh (by omega)⟩;exact .oA [] []
 ·have hA:inB a 0 (finI s c)=true:=by cases h:inB a 0 (finI s c) with
   | true=>rfl
   | false=>exact absurd (.inl h) hin
  have hB:inB b 0 (finI s c)=true:=by cases h:inB b 0 (finI s c) with
   | true=>rfl
   | false=>exact absurd (.inr h) hin
  rw[Ji] at hA hB;obtain⟨_,c1,c2,hfin⟩:=yT (s:=s) (c:=c) (by omega);obtain⟨k,rfl⟩:=AJ (show 0≤c by omega);have hk:k<s.cols.length:=by omega
  have hT:zk2 s k a v b=(let r:=if (qk s k).kind=2 then qw3 (qQ s k) (fun x=>upC (qJ s k) x a) (fun x=>upC (qJ s k) x b) v else zx4 (qk s k) a v b
   (if r.2=true then r.1 else 0,r.2)):=by rw[zk2,Aq hin,Ax]
  by_cases h2:(qk s k).kind=2
  ·rw[hT,Aj h2];exact qY6 s hE k hk (by omega) h2 a v b hA hB
  ·rw[hT,Aq h2];have hat:qk s k=s.cols[k]:=by rw[qk,qh hk]
   have hkk:=za (hok.cs k hk);have h3:(qk s k).kind=3:=by have:=hkk.2.2.1 (by omega);omega
   have hm:=hkk.2.2.2.2 h3;have hwl : -1000000≤(qk s k).low∧(qk s k).low≤(qk s k).high∧(qk s k).high≤1000000:=jM7 hm;have hf:finI s k=(qk s k).widths.length:=by rw[finI,Aq (by omega),Ax,Aq h2]
   have hw:=fun lev (h1:0≤lev∧lev≤finI s k)=>show lev=0∨(1≤lev∧lev≤(qk s k).widths.length∧(qk s k).widths.length≤4∧1≤qD (qk s k) lev∧qD (qk s k) lev≤1000000) by
    rcases Int.lt_or_le 0 lev with q | q
    ·right
     obtain⟨w1,w2,_,w4,_⟩:=hok.wid hk (by omega) h2 (lev:=lev) (by omega);exact⟨by omega,by omega,w4,w1,w2⟩
    ·left;omega
   have sM:=qv2 (qk s k) a v b hwl (hw a hA) (hw b hB);have sT:=wB s hE k;have e1:decide (a<0)=false:=Cq (by omega);have e2:decide (a>finI s k)=false:=Cq (by omega);have e3:decide (b<0)=false:=Cq (by omega);have e4:decide (b>finI s k)=false:=Cq (by omega);generalize zx4 (qk s k) a v b=r at sM ⊢
   rw[hat] at sM h2;dsimp only;refine qd JC mixm (by simp) fun e _ hst=>qg ?_;unfold kG;refine sW ?_;refine C1.im sT (by rfl) (by rfl) ?_;simp only[tZ,↓un_u,simprocAttr,e1,e2,e3,e4,Ax,qe hk,AY,Ak];generalize s.cols[k]=x at h2 sM ⊢
   refine⟨by omega,fun h=>absurd h h2,fun _=>?_⟩;refine C1.im sM (by rfl) (by rfl) ?_;simp only[tZ,↓un_u,simprocAttr,Bx,Bz];refine⟨fun h=>?_,fun h=>?_⟩
   ·rw[h,Aq (by simp)];exact .oA [] []
   ·rw[h,Aj rfl];exact .oA [] []
end Go.Proofs
namespace Go.Proofs
open Go Go.TL
set_option maxRecDepth 4000
set_option maxHeartbeats 8000000
theorem jc4 {α:Type} {p:α→Bool} {l:List α} (h:l.any p=true):∃ (i:Nat) (hi:i<l.length),idxI p l=i∧p l[i]=true:=by
 obtain⟨x,hx,hp⟩:=DJ.1 h;have hlt:=List.findIdx_lt_length_of_exists ⟨x,hx,hp⟩;exact⟨l.findIdx p,hlt,by rw[idxI,Aj h],List.findIdx_getElem⟩
end Go.Proofs
namespace Go.Proofs
open Go Go.TL
set_option maxRecDepth 4000
set_option maxHeartbeats 8000000
open So
def fitV (s:Sch) (ps:List Pk) (row:List Int) (i:Nat):Bool:=(js4 s (ps.getD i default).col.toNat (ps.getD i default).lev (row.getD (i+1) 0)).2
def fitX (s:Sch) (ps:List Pk) (row:List Int):Bool:=(row.length==ps.length+1)&&decide (0≤hd row)&&decide (hd row≤1048575)&&(List.range ps.length).all (fitV s ps row)
theorem js8 {n:Nat} {p:Nat→Bool}:(List.range (n+1)).all p=((List.range n).all p&&p n):=by
 rw[List.range_succ,FK];simp
theorem jM8 {n m:Nat} {p:Nat→Bool} (h:n<m) (hp:p n=false):(List.range m).all p=false:=by
 rw[List.all_eq_false];exact⟨n,Dk.2 h,by rw[hp];simp⟩
theorem zs8 (s:Sch) (ps:List Pk) (row:List Int) (hp:ym s ps=0) (hr:row.length<4611686018427387904):Spc Tryz.prog WT [schT s,vPs ps,vIs row] [] (vB (fitX s ps row)) []:=by
 obtain⟨hE,hpk,_⟩:=qa9 hp;have hpl:=qI7 hp;have hwl:=qj (i:=ps.length) (by omega);by_cases hl:row.length=ps.length+1
 ·have h0:0<row.length:=by omega
  have hgi:=zZ h0;have q1:((row.length:Int) != ((ps.length+1:Nat):Int))=false:=by rw[Aw];omega
  have hX:fitX s ps row=(decide (0≤hd row)&&decide (hd row≤1048575)&&(List.range ps.length).all (fitV s ps row)):=by
   rw[fitX,AY.2 hl,Fq]
  rw[hX];refine qd KX mixm (by simp) fun e _ hst=>qg ?_;unfold wn;simp only[tZ,↓un_u,simprocAttr,hwl,q1,hgi,tD,gt_iff_lt];refine⟨by omega,by omega,fun h=>?_,fun h=>?_⟩
  ·rw[show (decide (0≤hd row)&&decide (hd row≤1048575))=false from by
    rw[Bool.eq_false_iff];intro k;simp only[Bq,AZ] at k;omega,Bool.false_and]
   exact .oA [] []
  rw[show (decide (0≤hd row)&&decide (hd row≤1048575))=true from by simp only[Bq,AZ];omega,Fq];refine qu mixm (α:=Nat) [31] (fun i=>i≤ps.length∧((List.range i).all (fitV s ps row)=true)) (fun i=>[(31,vI i)]) (fun i=>[(4096,.arr 2 [schT s] false)]) (fun i=>ps.length-i) 0 ⟨by omega,?_⟩ ?_ fun i hi=>?_
  ·rfl
  ·exact .oA [(4096,some 4096)] []
  simp only[tZ,↓un_u,simprocAttr,AZ,Ay];refine⟨fun h=>?_,fun h=>?_⟩
  ·have hi2:i<ps.length:=by omega
   have hpi:=qg4 (hpk _ (AX hi2));obtain⟨c,hc⟩:=AJ (show 0≤ps[i].col by omega);have hwi:=qj (i:=i) (by omega);have hs:=zG9 s hE c (by omega) (by omega) ps[i].lev (row.getD (i+1) 0) (by rw[hc] at hpi;omega);have hrl:i+1<row.length:=by omega
   have hgr:(row.map vI).getD (i+1) .junk=vI (row.getD (i+1) 0):=by rw[qe hrl,qh hrl]
   have hV:fitV s ps row i=(js4 s c ps[i].lev (row.getD (i+1) 0)).2:=by rw[fitV,qh hi2,hc,Ax]
   have hi2:i<ps.length:=by omega
   have hwi:=qj (i:=i) (by omega);simp only[tZ,↓un_u,simprocAttr,Ax,qe hi2,hwi,hc,hgr];refine⟨by omega,by omega,?_⟩;refine C1.im hs (by rfl) (by rfl) ?_;simp only[tZ,↓un_u,simprocAttr,Bx,Bz,hwi];refine⟨by kernel_rfl,fun h6=>?_,fun h6=>?_⟩
   ·rw[jM8 hi2 (hV.trans h6)];exact .oA [] []
   ·refine⟨i+1,⟨by omega,by rw[js8,hi.2,hV,h6];rfl⟩,by omega,?_⟩;exact .oA [(4096,some 4096)] []
  ·have hi2:i=ps.length:=by omega
   subst hi2;rw[hi.2];exact .oA [] []
 ·have q1:((row.length:Int) != ((ps.length+1:Nat):Int))=true:=by rw[Bj];omega
  have hX:fitX s ps row=false:=by
   rw[fitX,Ak.2 hl]
   rfl
  rw[hX];by_cases h0:0<row.length
  ·have hgi:=zZ h0;refine qd KX mixm (by simp) fun e _ hst=>qg ?_;unfold wn;simp only[tZ,↓un_u,simprocAttr,hwl,q1,hgi];exact .oA [] []
  ·obtain rfl:row=[]:=Dy.1 (by omega);have hb1:∀ n,binR BinOp.lss false (((List.map vI ([]:List Int)).getD 0 T.junk).cells.getD 0 T.junk) (T.v (Value.int IntKind.i64 n))=none:=fun _=>rfl;have hb2:∀ n,binR BinOp.gtr false (((List.map vI ([]:List Int)).getD 0 T.junk).cells.getD 0 T.junk) (T.v (Value.int IntKind.i64 n))=none:=fun _=>rfl;have q0:((0:Int) != ((ps.length+1:Nat):Int))=true:=by rw[Bj];omega
   refine qd KX mixm (by simp) fun e _ hst=>qg ?_;unfold wn;simp only[tZ,↓un_u,simprocAttr,hwl,q0,hb1,hb2];exact .oA [] []
theorem jc5 {s:Sch} {ps:List Pk} {row:List Int} (h:fitX s ps row=true):row.length=ps.length+1∧0≤hd row∧hd row≤1048575:=by
 unfold fitX at h;simp only[Bq,AY,AZ] at h;exact⟨h.1.1.1,h.1.1.2,h.1.2⟩
def jc6 (s:Sch) (x:Ext) (i:Nat):Int:=if fitX s x.picks (x.rows.getD i [])=false then 9 else if 0<i∧hd (x.rows.getD i [])≤hd (x.rows.getD (i-1) []) then 10 else 0
def extE (s:Sch) (x:Ext):Int:=if schE s≠0 then schE s else if jt x.proj=false then 3 else if x.ver<0∨x.ver>300 then 13 else if ym s x.picks≠0 then ym s x.picks else if x.rows.length>200 then 1 else zF (jc6 s x) x.rows.length
theorem qq4 (s:Sch) (hs:yg s) (x:Ext) (hp:x.picks.length<4611686018427387904) (hr:∀ r∈x.rows,r.length<4611686018427387904):Spc Tryz.prog Ql [schT s,extT x] [] (vI (extE s x)) []:=by
 refine qd qU0 mixm (by simp) fun e _ hst=>qg ?_;unfold Jw;refine sW ?_;refine C1.im (jd s hs.2.1 hs.1) (by rfl) (by rfl) ?_;simp only[tZ,↓un_u,simprocAttr,Bj,Aw];refine⟨fun h=>?_,fun h=>?_⟩
 ·rw[extE,Aj h];exact .oA [] []
 rw[extE,Aq (by rw[h];simp)];refine C1.im (wz x.proj) (by rfl) (by rfl) ?_;simp only[tZ,↓un_u,simprocAttr,tD,Bx,Bz,gt_iff_lt];refine⟨fun h2=>?_,fun h2=>⟨fun h3=>?_,fun h3=>?_⟩⟩
 ·rw[Aj h2];exact .oA [] []
 ·rw[Aq (by rw[h2];simp),Aj h3];exact .oA [] []
 rw[Aq (by rw[h2];simp),Aq (by omega)];refine C1.im (qw1 s hs x.picks hp) (by rfl) (by rfl) ?_;simp only[tZ,↓un_u,simprocAttr,Bj,Aw];refine⟨fun h4=>?_,fun h4=>?_⟩
 ·rw[Aj h4];exact .oA [] []
 rw[Aq (by rw[h4];simp)];simp only[tZ,↓un_u,simprocAttr,tD,gt_iff_lt];refine⟨fun h5=>?_,fun h5=>?_⟩
 ·rw[Aj (by omega)];exact .oA [] []
 rw[Aq (by omega)];generalize hE:zF (jc6 s x) x.rows.length=E;refine qu mixm (α:=Nat) [42] (fun i=>i≤x.rows.length∧(zF (jc6 s x) i=0)) (fun i=>[(42,vI i)]) (fun i=>[(4096,.arr 2 [schT s] false),(4100,.arr 4 [extT x] false)]) (fun i=>x.rows.length-i) 0 ⟨by omega,?_⟩ ?_ fun i hi=>?_
 ·rfl
 ·exact .oA [(4096,some 4096),(4100,some 4100)] []
 simp only[tZ,↓un_u,simprocAttr,AZ,Ay];refine⟨fun h=>?_,fun h=>?_⟩
 ·have hi2:i<x.rows.length:=by omega
  have hg:x.rows.getD i []=x.rows[i]:=qh hi2;have hstep:=Qc hi.2 hi2;have hnext:=jP hi.2;have hA:jc6 s x i=if fitX s x.picks x.rows[i]=false then 9 else if 0<i∧hd x.rows[i]≤hd (x.rows.getD (i-1) []) then 10 else 0:=by rw[jc6,hg]
  have hprev:0<i→fitX s x.picks (x.rows.getD (i-1) [])=true:=fun h0=>by
   have:=ZO hi.2 (i-1) (by omega);unfold jc6 at this;split at this
   ·cases this
   ·rename_i k;simpa using k
  rw[hE] at hstep;have hF:=zs8 s x.picks x.rows[i] h4 (hr _ (AX hi2));obtain⟨k,hk1,hk2,hk3⟩:∃ k:Nat,(IntKind.i64.wrap ((i:Int)-1)).toNat=k∧k<x.rows.length∧(i=0∧k=0∨0<i∧k+1=i∧IntKind.i64.wrap ((i:Int)-1)=k):=by
   rcases DQ i with h0 | h0
   ·subst h0;exact⟨0,by decide,hi2,.inl ⟨rfl,rfl⟩⟩
   ·have e:=jp h0 (show i<4611686018427387904 by omega);exact⟨i-1,by rw[e];omega,by omega,.inr ⟨h0,by omega,e⟩⟩
  have hwi:=qj (i:=i) (by omega);have hi2:i<x.rows.length:=by omega
  have hwi:=qj (i:=i) (by omega);simp only[tZ,↓un_u,simprocAttr,Ax,qe hi2,hwi];refine⟨by omega,?_⟩;refine C1.im hF (by rfl) (by rfl) ?_;simp only[tZ,↓un_u,simprocAttr,Bx,Bz];refine⟨fun h6=>?_,fun h6=>?_⟩
  ·rw[Aj h6] at hA;rw[hstep (by rw[hA];simp),hA];exact .oA [] []
  rw[Aq (by rw[h6];simp)] at hA;obtain⟨f1,f2,f3⟩:=jc5 h6;have hip:0<x.rows[i].length:=by omega
  have hkp:0<x.rows[k].length:=by
   rcases hk3 with⟨a,b⟩ | ⟨a,b,_⟩
   ·subst a;subst b;exact hip
   ·have:=(jc5 (hprev a)).1;rw[show i-1=k by omega,qh hk2] at this;omega
  have hgk:0<i→x.rows.getD (i-1) []=x.rows[k]:=fun h0=>by
   rw[show i-1=k by omega,qh hk2]
  simp only[tZ,↓un_u,simprocAttr,hk1,qe hk2,zZ hip,zZ hkp,tD,gt_iff_lt,hwi];refine⟨fun _=>by omega,fun _=>by omega,fun _=>by omega,by kernel_rfl,fun h7=>?_,fun h7=>?_⟩
  ·have h8:0<i:=by omega
   rw[Aj ⟨h8,by rw[hgk h8];exact h7.2⟩] at hA;rw[hstep (by rw[hA];simp),hA];exact .oA [] []
  ·rw[Aq (fun k=>by
    have h8:=k.1;rw[hgk h8] at k;omega)] at hA
   refine⟨i+1,⟨by omega,by rw[hnext,hA]⟩,by omega,?_⟩;exact .oA [(4096,some 4096),(4100,some 4100)] []
 ·have hi2:i=x.rows.length:=by omega
  subst hi2;rw[← hE,hi.2];exact .oA [] []
theorem ki5 {s:Sch} {x:Ext} (h:extE s x=0):schE s=0∧jt x.proj=true∧(0≤x.ver∧x.ver≤300)∧ym s x.picks=0∧x.rows.length≤200∧(∀ i (hi:i<x.rows.length),fitX s x.picks x.rows[i]=true)∧AscR x.rows:=by
 unfold extE at h;split at h
 ·rename_i h1;exact absurd h h1
 rename_i h1;split at h
 ·cases h
 rename_i h2;split at h
 ·cases h
 rename_i h3;split at h
 ·rename_i h4;exact absurd h h4
 rename_i h4;split at h
 ·cases h
 rename_i h5;have key:∀ i (hi:i<x.rows.length),fitX s x.picks x.rows[i]=true∧¬ (0<i∧hd (x.rows.getD i [])≤hd (x.rows.getD (i-1) [])):=fun i hi=>by
  have:=ZO h i hi;unfold jc6 at this;split at this
  ·cases this
  ·rename_i k;rw[qh hi] at k;split at this
   ·cases this
   ·rename_i k2;exact⟨by simpa using k,k2⟩
 refine⟨AQ h1,by simpa using h2,by omega,AQ h4,by omega,fun i hi=>(key i hi).1,js1 (f:=hd) fun i h0 hi=>?_⟩;have:=(key i hi).2;have e1:x.rows.getD i default=x.rows.getD i []:=rfl;have e2:x.rows.getD (i-1) default=x.rows.getD (i-1) []:=rfl;rw[e1,e2];omega
def knwP (x:Ext) (r:Nat) (c:Int):Int×Int:=if (x.picks.any fun p=>p.col==c)=true then ((x.picks.getD (x.picks.findIdx fun p=>p.col==c) default).lev,(x.rows.getD r []).getD ((x.picks.findIdx fun p=>p.col==c)+1) 0) else (0,0)
def knwI (s:Sch) (x:Ext) (r:Nat) (c lev:Int):Int×Bool:=zk2 s c (knwP x r c).1 (knwP x r c).2 lev
theorem qR5 (p:Pk) (c:Int):Spc Tryz.prog wI [pkT p,.ip [vI c]] [] (vB (p.col==c)) []:=by
 refine qd qG4 mixm (by simp) fun e _ hst=>qg ?_;unfold QN;refine sW ?_;exact .oA [] []
theorem zk3 (s:Sch) (hE:schE s=0) (x:Ext) (r:Nat) (hr:r<x.rows.length) (hrl:x.rows[r].length=x.picks.length+1) (hpl:x.picks.length≤1000) (c lev:Int):Spc Tryz.prog KI [schT s,extT x,vI r,vI c,vI lev] [] (.tup [vI (knwI s x r c lev).1,vB (knwI s x r c lev).2]) []:=by
 have sI:=Za (fun p=>p.col==c) wI [.ip [vI c]] rfl x.picks (fun p _=>qR5 p c) (by omega);cases ha:x.picks.any fun p=>p.col==c with
 | false=>
   have h0:idxI (fun p:Pk=>p.col==c) x.picks = -1:=by rw[idxI,Aq (by rw[ha];simp)]
   have hT:=qq3 s hE c 0 0 lev;have hK:knwI s x r c lev=zk2 s c 0 0 lev:=by rw[knwI,knwP,Aq (by rw[ha];simp)]
   rw[hK];generalize zk2 s c 0 0 lev=w at hT ⊢
   rw[h0] at sI;refine qd qh3 mixm (by simp) fun e _ hst=>qg ?_;unfold yA;refine sW ?_;refine C1.lend [4104] sI ?_ (by rfl) (by rfl) ?_
   ·all_goals (try simp only[tL,simprocAttr,By,List.map_cons,List.map_nil,BW,Cy])
    all_goals (try (repeat' (first | exact zb | (apply zy;intro _;exact⟨rfl,rfl⟩) | (apply qE;intro _;exact⟨rfl,rfl⟩) | with_reducible apply qW | with_reducible refine qS ⟨rfl,rfl⟩ ?_ | exact qY | with_reducible apply qT | with_reducible refine qV ⟨rfl,rfl,?_⟩ ?_ | with_reducible apply Az | exact qU rfl | exact qU (by assumption) | (refine⟨⟨?_,rfl,?_,rfl,?_⟩,trivial⟩ <;> first | (simp;done) | (apply qE;intro _;exact⟨rfl,rfl⟩)) | trivial | rfl | (rw[qj (by omega)]) | omega)))
    all_goals (simp only[ltP];exact⟨rfl,by decide,rfl,qS ⟨rfl,rfl⟩ qY⟩)
   refine sW ?_;refine C1.im hT (by rfl) (by rfl) ?_;refine sW ?_;exact .oA [] []
 | true=>
   obtain⟨i,hi,e1,_⟩:=jc4 ha;have e2:idxI (fun p:Pk=>p.col==c) x.picks=(x.picks.findIdx fun p=>p.col==c:Nat):=by rw[idxI,Aj ha]
   have e3:(x.picks.findIdx fun p=>p.col==c)=i:=by omega
   have hK:knwI s x r c lev=zk2 s c x.picks[i].lev (x.rows[r].getD (i+1) 0) lev:=by rw[knwI,knwP,Aj ha,e3,qh hi,qh hr]
   have hT:=qq3 s hE c x.picks[i].lev (x.rows[r].getD (i+1) 0) lev;rw[hK];generalize zk2 s c x.picks[i].lev (x.rows[r].getD (i+1) 0) lev=w at hT ⊢
   rw[e1] at sI;have hwi:=qj (i:=i) (by omega);have hil:i+1<x.rows[r].length:=by omega
   have hgr:(x.rows[r].map vI).getD (i+1) .junk=vI (x.rows[r].getD (i+1) 0):=by rw[qe hil,qh hil]
   refine qd qh3 mixm (by simp) fun e _ hst=>qg ?_;unfold yA;refine sW ?_;refine C1.lend [4104] sI ?_ (by rfl) (by rfl) ?_
   ·all_goals (try simp only[tL,simprocAttr,By,List.map_cons,List.map_nil,BW,Cy])
    all_goals (try (repeat' (first | exact zb | (apply zy;intro _;exact⟨rfl,rfl⟩) | (apply qE;intro _;exact⟨rfl,rfl⟩) | with_reducible apply qW | with_reducible refine qS ⟨rfl,rfl⟩ ?_ | exact qY | with_reducible apply qT | with_reducible refine qV ⟨rfl,rfl,?_⟩ ?_ | with_reducible apply Az | exact qU rfl | exact qU (by assumption) | (refine⟨⟨?_,rfl,?_,rfl,?_⟩,trivial⟩ <;> first | (simp;done) | (apply qE;intro _;exact⟨rfl,rfl⟩)) | trivial | rfl | (rw[qj (by omega)]) | omega)))
    all_goals (simp only[ltP];exact⟨rfl,by decide,rfl,qS ⟨rfl,rfl⟩ qY⟩)
   have q1:decide ((i:Int)<0)=false:=Cq (by omega);have hgi2:=qe (f:=pkT) hi;simp only[tZ,↓un_u,simprocAttr,q1,Ax,hgi2,qe hr,hwi,hgr];refine⟨by omega,by omega,by omega,?_⟩;refine C1.im hT (by rfl) (by rfl) ?_;refine sW ?_;refine⟨by kernel_rfl,?_⟩;exact .oA [] []
def valI (s:Sch) (x:Ext) (r c lev:Int):Int×Bool:=if extE s x≠0∨r<0∨r≥x.rows.length then (0,false) else knwI s x r.toNat c lev
theorem zk4 (s:Sch) (hs:yg s) (x:Ext) (hp:x.picks.length<4611686018427387904) (hr:∀ r∈x.rows,r.length<4611686018427387904) (r c lev:Int):Spc Tryz.prog KE [schT s,extT x,vI r,vI c,vI lev] [] (.tup [vI (valI s x r c lev).1,vB (valI s x r c lev).2]) []:=by
 have hV:valI s x r c lev=if extE s x≠0∨r<0∨r≥x.rows.length then (0,false) else knwI s x r.toNat c lev:=rfl
 have hC:=qq4 s hs x hp hr;by_cases h:extE s x≠0∨r<0∨r≥x.rows.length
 ·rw[hV,Aj h];refine qd qh2 mixm (by simp) fun e _ hst=>qg ?_;unfold yz;refine sW ?_;refine C1.im hC (by rfl) (by rfl) ?_;simp only[tZ,↓un_u,simprocAttr,tD,Bj,Aw];refine⟨fun _=>?_,fun k=>by omega⟩;exact .oA [] []
 ·obtain⟨hE,_,_,hp0,_,hf,_⟩:=ki5 (s:=s) (x:=x) (by omega);obtain⟨j,rfl⟩:=AJ (show 0≤r by omega);have hj:j<x.rows.length:=by omega
  have hpl:=qI7 hp0;have hK:=zk3 s hE x j hj (jc5 (hf j hj)).1 (by omega) c lev;rw[hV,Aq h,Ax];generalize knwI s x j c lev=w at hK ⊢
  refine qd qh2 mixm (by simp) fun e _ hst=>qg ?_;unfold yz;refine sW ?_;refine C1.im hC (by rfl) (by rfl) ?_;simp only[tZ,↓un_u,simprocAttr,tD,Bj,Aw];refine⟨fun k=>by omega,fun _=>?_⟩;refine C1.im hK (by rfl) (by rfl) ?_;refine sW ?_;exact .oA [] []
def nrwX (x:Ext) (ks:List Int):Ext:=⟨x.proj,x.ver,x.picks,x.rows.filter fun r=>decide (0<r.length)&&ks.contains (hd r)⟩
end Go.Proofs
