/- A part of the proof: trees of Go values, short forms, contracts. -/
import Derived.WalkKit
import Derived.Still
import Derived.MapKept
import GoSem.Builtin.Cap
import Derived.Laws.Externs
import GoSem.Extern.SlicesOverlaps
import Derived.Carry
import Derived.ProofKit
import Derived.OpenShut
import Derived.HandedShaped
import Derived.Lay
import Derived.LaidLaws
import Derived.MakeChecks
import Derived.SevenTiedAt
import Derived.Test.YtpmgddadeedmbaaGreatDoorChecked
import Derived.Test.YtpmgddadeedmbaaGreatDoorK23
set_option linter.unusedSimpArgs false
set_option linter.unusedVariables false
namespace Go.Proofs
open Go Go.TL
open Go.TL.So
theorem jQ7 (k:UInt8):IntKind.i64.wrap (0+IntKind.i64.wrap ((k.toNat:Nat):Int))=(k.toNat:Int):=by
 have h:=k.toNat_lt;rw[AK (k.toNat:Int) (by omega),AK _ (by omega)];omega
def L8 (n:Nat):Nat:=if n=0 then 0 else Nat.log2 n+1
theorem ki3 (n:Nat) (h:n<256):L8 n≤8∧n<2 ^ L8 n∧(0<n→2 ^ L8 n≤2*n):=by
 unfold L8
 revert n
 decide +kernel
def L16 (n:Nat):Nat:=if n<256 then L8 n else 8+L8 (n / 256)
theorem ki4 (n:Nat) (h:n<65536):L16 n≤16∧n<2 ^ L16 n∧(0<n→2 ^ L16 n≤2*n):=by
 unfold L16;split
 ·rename_i h2;obtain⟨h3,h4,h5⟩:=ki3 n h2;exact⟨by omega,h4,h5⟩
 ·rename_i h2;obtain⟨h3,h4,h5⟩:=ki3 (n / 256) (by omega);rw[Nat.pow_add];have h6:=h5 (by omega);generalize 2 ^ L8 (n / 256)=p at *
  refine⟨by omega,?_,fun _=>?_⟩ <;> omega
set_option maxRecDepth 100000 in
theorem qO6 (n:Nat) (h:n<65536):Spc Tryz.prog Zx [vU64 n] [] (vI (L16 n)) []:=by
 have d1:decide ((n:Int)≥4294967296)=false:=decide_eq_false (by omega);have d2:decide ((n:Int)≥65536)=false:=decide_eq_false (by omega);by_cases h8:n<256
 ·have d3:decide ((n:Int)≥256)=false:=decide_eq_false (by omega);have hw:IntKind.u8.wrap (n:Int)=n:=by rw[IntKind.wrap_u8];omega
  rw[L16,Aj h8];refine qd WK mixm (by simp) fun e _ hst=>qg ?_;unfold kU;simp only[tZ,↓un_u,simprocAttr,d1,d2,d3,hw,Ax,jQ7];refine⟨⟨by omega,Int.ofNat_lt.2 h8⟩,.imR (congrArg (fun k:Nat=>vI (k:Int)) ?_) rfl⟩;clear d1 d2 d3 hw h;unfold L8
  revert n
  decide +kernel
 ·have d3:decide ((n:Int)≥256)=true:=decide_eq_true (by omega);have hs:shrI .u64 (n:Int) 8=((n / 256:Nat):Int):=by
   simp only[shrI];rw[show min (8:Int).toNat IntKind.u64.bits=8 from rfl,show (2:Int) ^ 8=256 from rfl,Int.fdiv_eq_ediv_of_nonneg _ (by omega)];omega
  have hw:IntKind.u8.wrap ((n / 256:Nat):Int)=((n / 256:Nat):Int):=by rw[IntKind.wrap_u8];omega
  have hw2:IntKind.i64.wrap (0+8)=8:=by decide
  rw[L16,Aq h8];refine qd WK mixm (by simp) fun e _ hst=>qg ?_;unfold kU;simp only[tZ,↓un_u,simprocAttr,d1,d2,d3,hs,hw,hw2,Ax];have hm:n / 256<256:=by omega
  refine⟨⟨by omega,Int.ofNat_lt.2 hm⟩,.imR (congrArg vI ?_) rfl⟩;clear d1 d2 d3 hw hw2 hs h h8 hst;generalize n / 256=m at *
  unfold L8
  revert m
  decide +kernel
theorem zh2 (n:Nat) (h:n<65536):∃ l:Nat,(l≤16∧n<2 ^ l∧(0<n→2 ^ l≤2*n))∧Spc Tryz.prog KI [vU64 n] [] (vI l) []:=by
 have hs:=qO6 n h;refine⟨L16 n,ki4 n h,?_⟩;refine qd qT4 mixm (by simp) fun e _ hst=>qg ?_;unfold JD;refine sW ?_;refine C1.im hs (by rfl) (by rfl) ?_;refine sW ?_;exact .imR rfl rfl
def xs1 (v:Int):Int:=xorI .u64 v (shlI .u64 v 13)
def xs2 (v:Int):Int:=xorI .u64 v (shrI .u64 v 7)
end Go.Proofs
namespace Go.Proofs
open Go Go.TL
open Go.TL.So
set_option maxHeartbeats 2000000
end Go.Proofs
namespace Go.Proofs
open Go Go.TL
set_option maxRecDepth 4000
set_option maxHeartbeats 8000000
open So
end Go.Proofs
namespace Go.Proofs
open Go Go.TL
set_option maxRecDepth 4000
set_option maxHeartbeats 8000000
open So
end Go.Proofs
namespace Go.Proofs
open Go Go.TL
set_option maxRecDepth 4000
set_option maxHeartbeats 4000000
structure DrE (x:Src) (d:Edt):Prop where
 kind:1≤d.kind∧d.kind≤4
 len:d.row.length≤8
 id:0≤d.id∧d.id≤1048575
end Go.Proofs
namespace Go.Proofs
open Go Go.TL
set_option maxRecDepth 4000
set_option maxHeartbeats 8000000
open So
theorem SrcOk.smx {s:Src} (h:SrcOk s):jO7 s:=⟨(qV h.sch).sm,fun r hr=>by
 have h1:=(ze6 (h.rows r hr)).2.1;have h2:=(qV h.sch).nc;omega⟩
structure TwoOk (a b:Ext):Prop where
 pa:a.proj=b.proj
 pk:a.picks=b.picks
 oa:ExtOk a
 ob:ExtOk b
 sa:ExtSm a
 sb:ExtSm b
 na:a.rows.length≤200
 nb:b.rows.length≤200
theorem TwoOk.symm {a b:Ext} (h:TwoOk a b):TwoOk b a:=⟨h.pa.symm,h.pk.symm,h.ob,h.oa,h.sb,h.sa,h.nb,h.na⟩
theorem zh3 (s:Src) (l:List Pk) (k:Int):∀ (m A:List (List Int)),AscR A→(∀ r∈A,r.length=l.length+1)→AscR (m.foldl (qG6 s l k) A)∧(∀ r∈m.foldl (qG6 s l k) A,r.length=l.length+1)∧(m.foldl (qG6 s l k) A).length≤A.length+m.length
 | [],A,h1,h2=>⟨h1,h2,by simp⟩
 | r::m,A,h1,h2=>by
   obtain⟨k1,k2,k3⟩:=zh3 s l k m (qG6 s l k A r) (zB2 h1) (fun x hx=>by
    rcases (zB3 h1).1 hx with e | ⟨hx,_⟩
    ·rw[e];simp [rowX]
    ·exact h2 x hx)
   have h3:=jh4 A (rowX s l k r);refine⟨k1,k2,?_⟩;have h4:(qG6 s l k A r).length≤A.length+1:=h3;rw[List.foldl_cons,List.length_cons];omega
theorem ji8 {s:Src} (h:SrcOk s) (d:Dcl):(ownR s d).length≤200:=by
 have:=h.nr;unfold ownR;split
 ·simp
 ·exact Nat.le_trans (List.length_filter_le _ _) h.nr
end Go.Proofs
namespace Go.Proofs
open Go Go.TL
set_option maxRecDepth 4000
set_option maxHeartbeats 8000000
open So
theorem jQ8 (x:ByteArray):eqB x x=true:=by
 show (x.toList==x.toList)=true;simp
end Go.Proofs
namespace Go.Proofs
open Go Go.TL
set_option maxRecDepth 4000
set_option maxHeartbeats 8000000
open So
end Go.Proofs
namespace Go.Proofs
open Go Go.TL
set_option maxRecDepth 4000
set_option maxHeartbeats 8000000
open So
end Go.Proofs
namespace Go.Proofs
open Go Go.TL
set_option maxRecDepth 4000
set_option maxHeartbeats 8000000
open So
theorem jG7 {k n:Int} (hk:0≤k∧k<1152921504606846976) (hn:0≤n∧n<1048576):0≤keyI k n∧idI k (keyI k n)=n:=by
 have h1:JS k n=true:=by simp [JS];omega
 have h2:=Wn (s:=k) (qn3 hn) 8;have h3:=zP5 h2;have h4:keyI k n=tie (fwd k 8 (cut n)):=by rw[keyI,Aj h1]
 have h5:JS k (keyI k n)=true:=by rw[h4];simp [JS];omega
 refine⟨by omega,?_⟩;rw[idI,Aj h5,h4,kb0 h2,jD7 (qn3 hn),kb1]
theorem jG8 {k n m:Int} (hk:0≤k∧k<1152921504606846976) (hn:0≤n∧n<1048576) (hm:0≤m∧m<1048576) (h:keyI k n=keyI k m):n=m:=by
 have h1:=(jG7 hk hn).2;have h2:=(jG7 hk hm).2;rw[← h1,← h2,h]
theorem zR0 (s:Src) (l:List Pk) (k:Int):∀ (m A:List (List Int)),AscR A→(m.Pairwise fun a b=>keyI k (hd a)≠keyI k (hd b))→(∀ r∈m,∀ x∈A,hd x≠keyI k (hd r))→
 ∀ x,x∈m.foldl (qG6 s l k) A↔x∈A∨∃ r∈m,x=rowX s l k r
 | [],A,_,_,_,x=>by simp
 | r::m,A,h1,h2,h3,x=>by
   obtain⟨h4,h5⟩:=List.pairwise_cons.1 h2;have hm:∀ y,y∈qG6 s l k A r↔y=rowX s l k r∨y∈A:=fun y=>by
    show y∈putR A (rowX s l k r)↔_;rw[zB3 h1];constructor
    ·rintro (a | ⟨a,_⟩)
     ·exact .inl a
     ·exact .inr a
    ·rintro (a | a)
     ·exact .inl a
     ·exact .inr ⟨a,h3 r (by simp) y a⟩
   rw[List.foldl_cons,zR0 s l k m (qG6 s l k A r) (zB2 h1) h5 (fun q hq y hy=>by
    rcases (hm y).1 hy with e | hy
    ·rw[e];exact h4 q hq
    ·exact h3 q (List.mem_cons_of_mem _ hq) y hy),hm]
   constructor
   ·rintro ((a | a) | ⟨q,hq,a⟩)
    ·exact .inr ⟨r,by simp,a⟩
    ·exact .inl a
    ·exact .inr ⟨q,List.mem_cons_of_mem _ hq,a⟩
   ·rintro (a | ⟨q,hq,a⟩)
    ·exact .inl (.inr a)
    ·rcases List.mem_cons.1 hq with rfl | hq
     ·exact .inl (.inl a)
     ·exact .inr ⟨q,hq,a⟩
theorem qz4 {s:Src} {d:Dcl} (h:SrcOk s) (hd0:dclE s.sch d=0) (r:List Int):r∈ownR s d↔r∈s.rows∧ownP s d r=true:=by
 unfold ownR;rw[Aq (by rw[qy7.2 h,hd0];simp),List.mem_filter]
theorem jG9 {s:Src} {d:Dcl} {k:Int} (h:SrcOk s) (hk:0≤k∧k<1152921504606846976):(ownR s d).Pairwise fun a b=>keyI k (hd a)≠keyI k (hd b):=by
 unfold ownR;split
 ·exact List.Pairwise.nil
 ·refine List.Pairwise.filter _ ?_;refine List.Pairwise.imp_of_mem ?_ h.asc;intro a b ha hb hab e;have h1:=zV9 (h.rows a ha);have h2:=zV9 (h.rows b hb);have:=jG8 hk (by omega) (by omega) e;omega
theorem Kv {s:Src} {d:Dcl} {l:List Pk} {k:Int} (h:SrcOk s) (hd0:dclE s.sch d=0) (hk:0≤k∧k<1152921504606846976) (x:List Int) :
 x∈Zg s d l k↔∃ r∈s.rows,ownP s d r=true∧x=rowX s l k r:=by
 unfold Zg;rw[zR0 s l k _ [] List.Pairwise.nil (jG9 h hk) (by simp)];constructor
 ·rintro (a | ⟨r,hr,e⟩)
  ·simp at a
  ·obtain⟨h1,h2⟩:=(qz4 h hd0 r).1 hr;exact⟨r,h1,h2,e⟩
 ·rintro ⟨r,h1,h2,e⟩;exact .inr ⟨r,(qz4 h hd0 r).2 ⟨h1,h2⟩,e⟩
end Go.Proofs
namespace Go.Proofs
open Go Go.TL
set_option maxRecDepth 4000
set_option maxHeartbeats 8000000
end Go.Proofs
namespace Go.Proofs
open Go Go.TL
set_option maxRecDepth 4000
set_option maxHeartbeats 8000000
open So
end Go.Proofs
namespace Go.Proofs
open Go Go.TL
set_option maxRecDepth 4000
set_option maxHeartbeats 8000000
theorem SrcOk.rw {s:Src} (h:SrcOk s):RwId s.rows:=⟨h.asc,fun r hr=>YE (h.rows r hr),fun r hr=>zV9 (h.rows r hr),by have:=h.nr;omega⟩
end Go.Proofs
namespace Go.Proofs
open Go Go.TL
set_option maxRecDepth 4000
set_option maxHeartbeats 8000000
end Go.Proofs
namespace Go.Proofs
open Go Go.TL
set_option maxRecDepth 4000
set_option maxHeartbeats 8000000
end Go.Proofs
namespace Go.Proofs
open Go Go.TL
set_option maxRecDepth 4000
set_option maxHeartbeats 8000000
end Go.Proofs
namespace Go.Proofs
open Go Go.TL
set_option maxRecDepth 4000
set_option maxHeartbeats 8000000
end Go.Proofs
namespace Go.Proofs
open Go Go.TL
set_option maxRecDepth 4000
set_option maxHeartbeats 8000000
open So
theorem jH0 {xs:List (List Int)} {i:Nat} (h:i<xs.length):(xs.map vIs).getD i .junk=vIs (gd xs i):=by rw[zs7 h];exact qe h
theorem kc4 (x y:List Int):repl (vIs x) 0 (vIs y)=vIs y:=rfl
theorem kc5 (x:List Int):(vIs x).cells.getD 0 .junk=vIs x:=rfl
theorem ki5 (xs:List (List Int)) (i:Nat) (v:List Int):(xs.map vIs).set i (vIs v)=(xs.set i v).map vIs:=List.map_set.symm
theorem ki6 (xs:List (List Int)) (i j:Nat):((xs.set i (gd xs j)).set j (gd xs i))=swp xs i j:=rfl
theorem gd_mem {xs:List (List Int)} {i:Nat} (h:i<xs.length):gd xs i∈xs:=by rw[zs7 h];exact AX h
section
variable (cv:List Int→List Int→Int) (P:List Int→Prop) (f:FuncId) (hf:∀ x y,P x→P y→Spc Tryz.prog f [vIs x,vIs y] [] (vI (cv x y)) [])
abbrev ltV (x y:List Int):Bool:=decide (cv x y<0)
include hf in
theorem Qh (xs:List (List Int)) (hP:∀ x∈xs,P x) (a b:Nat) (hab:a≤b) (hb:b≤xs.length) (hl:xs.length<4611686018427387904) :
 Spc Tryz.prog zp [.asl 0 xs.length,vI a,vI b,.clo f []] [(0,.arr 1 (xs.map vIs) false)] (.tup []) [(0,.arr 1 ((insS (ltV cv) xs a b).map vIs) false)]:=by
 have hw:=qj (i:=a) (by omega);refine qd yP mixm (by simp) fun e _ hst=>qg ?_;unfold zm;simp only[tZ,↓un_u,simprocAttr,hw];refine qu mixm (α:=List (List Int)×Nat) [8] (fun q=>q.1.length=xs.length∧a+1≤q.2∧(q.2≤b∨q.2=a+1)∧insF (ltV cv) a (b-q.2) q.2 q.1=insS (ltV cv) xs a b∧∀ x∈q.1,P x) (fun q=>[(8,vI q.2)]) (fun q=>[(0,.arr 1 (q.1.map vIs) false)]) (fun q=>b-q.2) (xs,a+1) ⟨rfl,Nat.le_refl _,.inr rfl,rfl,hP⟩ ?_ fun q hq=>?_
 ·exact .oA [(0,some 0)] []
 obtain⟨ys,i⟩:=q;obtain⟨h1,h2,h3,h4,hPy⟩:=hq;dsimp only at h1 h2 h3 h4 hPy;simp only[tZ,↓un_u,simprocAttr,AZ,Ay];refine⟨fun h5=>?_,fun h5=>?_⟩
 ·have hi2:i<b:=by omega
  rw[show b-i=(b-(i+1))+1 by omega,insF] at h4;refine qu mixm (α:=List (List Int)×Nat) [9] (fun q=>q.1.length=xs.length∧a≤q.2∧q.2≤i∧insJ (ltV cv) a q.2 q.1=insJ (ltV cv) a i ys∧∀ x∈q.1,P x) (fun q=>[(9,vI q.2)]) (fun q=>[(0,.arr 1 (q.1.map vIs) false)]) (fun q=>q.2) (ys,i) ⟨h1,by omega,Nat.le_refl _,rfl,hPy⟩ ?_ fun q hq=>?_
  ·exact .oA [(0,some 0)] []
  obtain⟨zs,j⟩:=q;obtain⟨g1,g2,g3,g4,hPz⟩:=hq;dsimp only at g1 g2 g3 g4 hPz;by_cases hj:a<j
  ·obtain⟨j,rfl⟩:∃ k,j=k+1:=⟨j-1,by omega⟩;have hwj:IntKind.i64.wrap (((j+1:Nat):Int)-1)=(j:Int):=by rw[AK _ (by omega)];omega
   have hd:decide (((j+1:Nat):Int)>a)=true:=by simp;omega
   have hc:=hf (gd zs (j+1)) (gd zs j) (hPz _ (gd_mem (by omega))) (hPz _ (gd_mem (by omega)));simp only[tZ,↓un_u,simprocAttr,hwj,hd,Ax,jH0 (show j<zs.length by omega),jH0 (show j+1<zs.length by omega)];refine⟨⟨g1,by omega,by omega⟩,⟨g1,by omega⟩,⟨g1,by omega,by omega⟩,⟨g1,by omega⟩,?_⟩;refine C2.one (by trivial) (C1.im hc (by rfl) (by rfl) ?_);have hsl:(zs.set (j+1) (gd zs j)).length=zs.length:=List.length_set;simp only[tZ,↓un_u,simprocAttr,hwj,Ax,jH0 (show j<zs.length by omega),jH0 (show j+1<zs.length by omega),kc4,kc5,ki5,jH0 (show j<(zs.set (j+1) (gd zs j)).length by omega),ki6];have hin:insJ (ltV cv) a (j+1) zs=if a<j+1∧ltV cv (gd zs (j+1)) (gd zs j)=true then insJ (ltV cv) a j (swp zs (j+1) j) else zs:=rfl
   refine⟨by kernel_rfl,fun h6=>?_,fun h6=>?_⟩
   ·refine⟨⟨g1,by omega,by omega⟩,⟨g1,by omega⟩,⟨g1,by omega,by omega⟩,⟨g1,by omega⟩,⟨g1,by omega,by omega⟩,⟨g1,by omega⟩,⟨by omega,by omega,by omega⟩,⟨by omega,by omega⟩,by kernel_rfl,(swp zs (j+1) j,j),⟨by dsimp only;rw[zw3];exact g1,by dsimp only;omega,by dsimp only;omega,?_,fun x hx=>hPz x ((jg0 (by omega) (by omega)).mem_iff.1 hx)⟩,by dsimp only;omega,?_⟩
    ·rw[← g4,hin,Aj ⟨hj,h6⟩]
    ·exact .oA [(0,some 0)] []
   ·rw[hin,Aq (fun e=>by have e2:=e.2;unfold ltV at e2;rw[h6] at e2;cases e2)] at g4;have hwi:=qj (i:=i) (by omega);refine⟨(zs,i+1),⟨g1,by dsimp only;omega,by dsimp only;omega,?_,hPz⟩,by dsimp only;omega,?_⟩
    ·dsimp only;rw[g4];exact h4
    ·rw[hwi];exact .oA [(0,some 0)] []
  ·have hd:decide ((j:Int)>a)=false:=by simp;omega
   have hwi:=qj (i:=i) (by omega);have hin:insJ (ltV cv) a j zs=zs:=by
    cases j with
    | zero=>rfl
    | succ j=>unfold insJ;rw[Aq (fun e=>hj e.1)]
   rw[hin] at g4;simp only[tZ,↓un_u,simprocAttr,hd,hwi];refine C2.no (fun h=>h) ?_;simp only[tZ,↓un_u,simprocAttr,hwi];refine⟨by kernel_rfl,(zs,i+1),⟨g1,by dsimp only;omega,by dsimp only;omega,?_,hPz⟩,by dsimp only;omega,?_⟩
   ·dsimp only;rw[g4];exact h4
   ·exact .oA [(0,some 0)] []
 ·rw[show b-i=0 by omega,insF] at h4;rw[← h4];exact .oA [(0,some 0)] []
theorem jX3 {st:Sto} {B:List Nat} (n:Nat) (ts:List T) (h:imAL ts=true):ltAs st [(0,some 0)] B (.asl 0 n::ts) (.asl 0 n::ts):=⟨by simp [ltA,ltC,ltC0,TL.get],qu9 h⟩
include hf in
theorem qz5 (xs:List (List Int)) (hP:∀ x∈xs,P x) (lim:Nat) (hl:xs.length≤12) :
 Spc Tryz.prog zf [.asl 0 xs.length,vI 0,vI xs.length,vI lim,.clo f []] [(0,.arr 1 (xs.map vIs) false)] (.tup []) [(0,.arr 1 ((insS (ltV cv) xs 0 xs.length).map vIs) false)]:=by
 have hw1:IntKind.i64.wrap ((xs.length:Int)-0)=(xs.length:Int):=by rw[AK _ (by omega)];omega
 have hin:=Qh cv P f hf xs hP 0 xs.length (by omega) (by omega) (by omega);refine Zl [11,16,18] JC mixm (by simp) fun e _ hst=>qg ?_;unfold zL;simp only[YO,List.contains_cons,List.contains_nil,Nat.reduceBEq,Bool.or_false,Bool.or_true,Bool.true_or,Bool.false_or,cond_true,cond_false];refine sW ?_;refine qu mixm (α:=Unit) [1,2,3,10,11] (fun _=>True) (fun _=>[(1,vI 0),(2,vI xs.length),(3,vI lim),(10,vB true),(11,vB true)]) (fun _=>[(0,.arr 1 (xs.map vIs) false)]) (fun _=>0) () trivial ?_ fun q hq=>?_
 ·exact .oA [(0,some 0)] []
 simp only[tZ,↓un_u,simprocAttr,AZ,Ay,hw1];refine⟨fun h8=>?_,fun h8=>absurd (show (xs.length:Int)≤12 by omega) h8⟩;refine C1.upd 0 1 _ _ hin (by rfl) (by apply qD;intro _;exact⟨rfl,rfl⟩) (by apply qD;intro _;exact⟨rfl,rfl⟩) (jX3 _ _ (by rfl)) (by rfl) ?_;refine sW ?_;exact .oA [(0,some 0)] []
include hf in
theorem qi0 (xs:List (List Int)) (hP:∀ x∈xs,P x) (hl:xs.length≤12):∃ ys,(ys.Perm xs∧(SWOrd (ltV cv)→Srt (ltV cv) ys 0 xs.length))∧
 Spc Tryz.prog kJ [.asl 0 xs.length,.clo f []] [(0,.arr 1 (xs.map vIs) false)] (.tup []) [(0,.arr 1 (ys.map vIs) false)]:=by
 obtain⟨lim,hlim,hs⟩:=zh2 xs.length (by omega);refine⟨insS (ltV cv) xs 0 xs.length,⟨(ka3 (ltV cv) xs (Nat.zero_le _) (Nat.le_refl _)).perm,fun ho=>jN1 ho xs (Nat.zero_le _) (Nat.le_refl _)⟩,?_⟩;have hu:IntKind.u64.wrap (xs.length:Int)=(xs.length:Int):=by rw[IntKind.wrap_u64];omega
 refine qd qd4 mixm (by simp) fun e _ hst=>qg ?_;unfold ky;simp only[tZ,↓un_u,simprocAttr,hu];refine C1.im hs (by rfl) (by rfl) ?_;refine sW ?_;refine C1.upd 0 1 _ _ (qz5 cv P f hf xs hP lim hl) (by rfl) (by apply qD;intro _;exact⟨rfl,rfl⟩) (by apply qD;intro _;exact⟨rfl,rfl⟩) (jX3 _ _ (by rfl)) (by rfl) ?_;refine sW ?_;exact .oA [(0,some 0)] []
end
end Go.Proofs
namespace Go.Proofs
open Go Go.TL
set_option maxRecDepth 4000
set_option maxHeartbeats 8000000
open So
def bidV (x y:List Int):Int:=hd x-hd y
theorem jH1 (x y:List Int):ltV bidV x y=decide (hd x<hd y):=by
 unfold ltV bidV;exact decide_eq_decide.2 (by omega)
theorem kc6:SWOrd (ltV bidV):=by
 refine⟨fun x y h=>?_,fun x y z h1 h2=>?_⟩
 ·rw[jH1] at h ⊢
  have:=of_decide_eq_true h;exact decide_eq_false (by omega)
 ·rw[jH1] at h1 h2 ⊢
  have k1:=of_decide_eq_false h1;have k2:=of_decide_eq_false h2;exact decide_eq_false (by omega)
theorem kc7 {ys:List (List Int)} (h:Srt (ltV bidV) ys 0 ys.length) (hn:∀ i,0<i→i<ys.length→hd (ys.getD i default)≠hd (ys.getD (i-1) default)):AscR ys:=by
 refine jm8 (f:=hd) fun i h0 hi=>?_;have h1:=h (i-1) i (by omega) (by omega) hi;have h2:=hn i h0 hi;have e1:gd ys i=ys.getD i default:=rfl;have e2:gd ys (i-1)=ys.getD (i-1) default:=rfl;unfold lew at h1;rw[e1,e2,jH1] at h1;have:=of_decide_eq_false h1;omega
end Go.Proofs
namespace Go.Proofs
open Go Go.TL
set_option maxRecDepth 4000
set_option maxHeartbeats 8000000
open So
theorem qX3 {s:Sch} {d:Dcl} (h:dclE s d=0):chkC s d.coh=0∧nodE s d.coh=0:=by
 have h1:=(qm6 h).2.2.2.1;exact⟨h1,(qy5 h1).2.2.2⟩
theorem kc8 {s:Src} {d:Dcl} (h:SrcOk s) (hd0:dclE s.sch d=0) {r:List Int} (hr:r∈s.rows):(inS d.smp (hd r)&&(evC s.sch r d.coh==1))=ownP s d r:=by
 have h1:=(qX3 hd0).1;have h2:=h.rows r hr;rw[ownP,jO0,Aq (by omega),Bool.and_comm]
theorem qo1 (s:Src) (d:Dcl) (h:SrcOk s) (hd0:dclE s.sch d=0):Spc Tryz.prog Qq [srcT s,dclT d] [] (vRw (s.rows.filter (ownP s d))) []:=by
 have hok:=h;have hrp:=hok.rowp;have hnr:=hok.nr;have hn:=(qX3 hd0).2;have hsc:=qV hok.sch;refine qd qS2 mixm (by simp) fun e _ hst=>qg ?_;unfold Jv;refine sW ?_;refine qu mixm (α:=Nat) [5,11] (fun i=>i≤s.rows.length) (fun i=>[(5,.asl 1 ((s.rows.take i).filter (ownP s d)).length),(11,vI i)]) (fun i=>[(4096,.arr 5 [srcT s] false),(4100,.arr 12 [dclT d] false),(1,.arr 1 (((s.rows.take i).filter (ownP s d)).map vIs) false)]) (fun i=>s.rows.length-i) 0 (by omega) ?_ fun i hi=>?_
 ·exact .oA [(4096,some 4096),(4100,some 4100),(1,none)] []
 have hfl:=List.length_filter_le (ownP s d) (s.rows.take i);rw[List.length_take] at hfl;refine sD ?_;refine⟨fun h2=>?_,fun h2=>?_⟩
 ·have hi2:i<s.rows.length:=by omega
  have hwi:=qj (i:=i) (by omega);have hgi:=yU (hrp _ (AX hi2));have hrpi:=hrp _ (AX hi2);have hsp:(s.rows.take (i+1)).filter (ownP s d)=(s.rows.take i).filter (ownP s d)++if ownP s d s.rows[i]=true then [s.rows[i]] else []:=by
   rw[qH hi2,List.filter_append,List.filter_cons,List.filter_nil]
  have hP:(inS d.smp (hd s.rows[i])&&(evC s.sch s.rows[i] d.coh==1))=ownP s d s.rows[i]:=kc8 h hd0 (AX hi2);have hI:=zW9 d.smp (hd s.rows[i]);have hH:=qO5 s.sch hsc s.rows[i] (ze6 (hok.rows _ (AX hi2))).2.1 d.coh hn;simp only[tZ,↓un_u,simprocAttr,Ax,qe hi2,hgi];refine⟨by omega,by omega,?_⟩;refine C1.im hI (by rfl) (by rfl) ?_;simp only[tZ,↓un_u,simprocAttr,Ax,qe hi2,hgi];refine C2.im (fun _=>hH) (fun _=>rfl) (by rfl) ?_;refine sW ?_;rw[hP];refine⟨by kernel_rfl,fun h3=>?_,fun h3=>?_⟩
  ·rw[Aj h3] at hsp;have hspl:=congrArg List.length hsp;simp only[AW,List.length_cons,List.length_nil] at hspl;simp only[tZ,↓un_u,simprocAttr,Ax,qe hi2,hwi];refine⟨by omega,i+1,by omega,by omega,?_⟩;rw[hsp];exact .oA [(4096,some 4096),(4100,some 4100),(1,some 1)] []
  ·rw[Aq (by rw[h3];simp),List.append_nil] at hsp;simp only[tZ,↓un_u,simprocAttr,hwi];refine⟨i+1,by omega,by omega,?_⟩;rw[hsp];exact .oA [(4096,some 4096),(4100,some 4100),(1,some 1)] []
 ·have hil:i=s.rows.length:=by omega
  subst hil;rw[List.take_length];exact .oA [] [1]
theorem JQ (s:Src) (d:Dcl) (hs:jO7 s):Spc Tryz.prog js [srcT s,dclT d] [] (vIs (ownS s d)) []:=by
 have hV:=qt9 s hs.1.2.1 hs.1.1 hs.2;refine qd qK1 mixm (by simp) fun e _ hst=>qg ?_;unfold ZA;refine sW ?_;refine C1.im hV (by rfl) (by rfl) ?_;refine sW ?_;refine C2.im (fun _=>Ww s.sch hs.1 d) (fun _=>rfl) (by rfl) ?_;simp only[tZ,↓un_u,simprocAttr,tD,bne_iff_ne,Aw,Bx,Bz];refine⟨fun h=>?_,fun h=>?_⟩
 ·rw[ownS,ownR,Aj h];exact .oA [] []
 have hok:=qy7.1 h.1;have hrp:=hok.rowp;have hnr:=hok.nr;have hO:=qo1 s d hok (by omega);rw[ownS,ownR,Aq (by grind)];have hfl:=List.length_filter_le (ownP s d) s.rows;have hRp:∀ r∈s.rows.filter (ownP s d),0<r.length:=fun r hr=>hrp r (List.mem_filter.1 hr).1;generalize s.rows.filter (ownP s d)=R at hO hfl hRp ⊢
 refine C1.im hO (by rfl) (by rfl) ?_;refine sW ?_;refine qu mixm (α:=Nat) [5,22] (fun i=>i≤R.length) (fun i=>[(5,.asl 1 i),(22,vI i)]) (fun i=>[(1,.arr 1 (((R.take i).map hd).map vI) false)]) (fun i=>R.length-i) 0 (by omega) ?_ fun i hi=>?_
 ·exact .oA [(1,none)] []
 have htl:((R.take i).map hd).length=i:=by rw[List.length_map,List.length_take];omega
 refine sD ?_;refine⟨fun h2=>?_,fun h2=>?_⟩
 ·have hi2:i<R.length:=by omega
  have hwi:=qj (i:=i) (by omega);have hgi:=yU (hRp _ (AX hi2));have hrpi:=hRp _ (AX hi2);have hsp:(R.take (i+1)).map hd=(R.take i).map hd++[hd R[i]]:=by rw[qH hi2,List.map_append];rfl
  have htl2:(R.take i).length=i:=by rw[List.length_take];omega
  simp only[tZ,↓un_u,simprocAttr,Ax,qe hi2,hgi,hwi];refine⟨by omega,by omega,by omega,i+1,by omega,by omega,?_⟩;rw[hsp];exact .oA [(1,some 1)] []
 ·have hil:i=R.length:=by omega
  subst hil;rw[List.take_length];exact .oA [] [1]
theorem kk1 {k:Int→Int} {ys:List (List Int)} (h:Srt (ltV bidV) ys 0 ys.length) (hn:(ys.map hd).Nodup):AscR ys:=by
 refine kc7 h fun i h0 hi e=>?_;have hi2:i<(ys.map hd).length:=by rw[List.length_map];exact hi
 have hi3:i-1<(ys.map hd).length:=by omega
 have:=(List.pairwise_iff_getElem.1 hn) (i-1) i hi3 hi2 (by omega);rw[List.getElem_map,List.getElem_map] at this;rw[qh hi,qh (by omega)] at e;exact this e.symm
def keyP (x:List Int):Prop:=0<x.length∧0≤hd x∧hd x≤1048575
theorem qO7 (x y:List Int) (hx:keyP x) (hy:keyP y):Spc Tryz.prog wC [vIs x,vIs y] [] (vI (bidV x y)) []:=by
 have h1:=yU hx.1;have h2:=yU hy.1;have a1:=hx.1;have a2:=hy.1;have hw:IntKind.i64.wrap (hd x-hd y)=hd x-hd y:=AK _ (by have:=hx.2;have:=hy.2;omega);refine qd qD0 mixm (by simp) fun e _ hst=>qg ?_;unfold QI;simp only[tZ,↓un_u,simprocAttr,h1,h2,hw];refine⟨by omega,by omega,by kernel_rfl,?_⟩;rw[show bidV x y=hd x-hd y from rfl];exact .oA [] []
theorem jH2 {k n:Int} (hk:0≤k∧k<1152921504606846976) (hn:0≤n∧n<1048576):0≤keyI k n∧keyI k n≤1048575:=by
 have h1:JS k n=true:=by simp [JS];omega
 have h3:=zP5 (Wn (s:=k) (qn3 hn) 8);have h4:keyI k n=tie (fwd k 8 (cut n)):=by rw[keyI,Aj h1]
 omega
theorem key0 (k:Int):(keyI k 0<0)↔(k<0∨k≥1152921504606846976):=by
 by_cases h:0≤k∧k<1152921504606846976
 ·have:=jH2 h (n:=0) (by omega);omega
 ·have h1:JS k 0=false:=by simp [JS];omega
  rw[keyI,Aq (by rw[h1];simp)];omega
theorem jH3 {s:Src} {d:Dcl} {l:List Pk} {k:Int} (h:SrcOk s) (hd0:dclE s.sch d=0) (hk:0≤k∧k<1152921504606846976) {ys:List (List Int)} (hp:ys.Perm ((s.rows.filter (ownP s d)).map (rowX s l k))) (hso:Srt (ltV bidV) ys 0 ys.length):ys=Zg s d l k:=by
 have hR:ownR s d=s.rows.filter (ownP s d):=by unfold ownR;rw[Aq (by rw[qy7.2 h,hd0];simp)]
 have hpw:=jG9 (d:=d) h hk;rw[hR] at hpw;have hnd:(ys.map hd).Nodup:=by
  rw[(hp.map hd).nodup_iff];rw[List.map_map];exact List.pairwise_map.2 (hpw.imp fun h=>h)
 have hA:=kk1 (k:=fun x=>x) hso hnd;obtain⟨q1,_,_⟩:=zh3 s l k (ownR s d) [] List.Pairwise.nil (by simp);refine ji1 hA q1 fun x=>?_;rw[hp.mem_iff];have:=Kv (l:=l) h hd0 hk x;rw[this,List.mem_map];constructor
 ·rintro ⟨r,hr,rfl⟩;obtain⟨a,b⟩:=List.mem_filter.1 hr;exact⟨r,a,b,rfl⟩
 ·rintro ⟨r,a,b,rfl⟩;exact⟨r,List.mem_filter.2 ⟨a,b⟩,rfl⟩
end Go.Proofs
namespace Go.Proofs
open Go Go.TL
set_option maxRecDepth 4000
set_option maxHeartbeats 8000000
open So
theorem Wx (s:Src) (d:Dcl) (l:List Pk) (k:Int) (hs:jO7 s) (h12:s.rows.length≤12) (hl:l.length<4611686018427387904):Spc Tryz.prog kX [srcT s,dclT d,vPs l,vI k] [] (.tup [extT (qQ7 s d l k),vI (buildE s d l k)]) []:=by
 have hE:=(rfl:buildE s d l k=buildE s d l k);have hS:qQ7 s d l k=if buildE s d l k≠0 then ext0 else ⟨d.proj,s.ver,l,Zg s d l k⟩:=rfl
 conv at hE=>rhs;unfold buildE
 have hbad:∀ v,v≠0→buildE s d l k=v→qQ7 s d l k=ext0∧buildE s d l k=v:=fun v h1 h2=>⟨by rw[hS,h2,Aj h1],h2⟩;have hgood:buildE s d l k=0→qQ7 s d l k=⟨d.proj,s.ver,l,Zg s d l k⟩:=fun h=>by rw[hS,h,Aq (by simp)]
 clear hS;generalize buildE s d l k=E at hE hbad hgood ⊢
 generalize qQ7 s d l k=A at hbad hgood ⊢
 have hV:=qt9 s hs.1.2.1 hs.1.1 hs.2;refine Zl [18] qR3 mixm (by simp) fun e _ hst=>qg ?_;unfold Jr;simp only[YO,List.contains_cons,List.contains_nil,Nat.reduceBEq,Bool.or_false,Bool.or_true,Bool.true_or,Bool.false_or,cond_true,cond_false];refine sW ?_;refine C1.im hV (by rfl) (by rfl) ?_;simp only[tZ,↓un_u,simprocAttr,Bx,Bz];refine⟨fun h=>?_,fun h=>?_⟩
 ·obtain⟨a1,a2⟩:=hbad 13 (by decide) (by rw[hE,Aj h]);rw[a1,a2];exact .oA [] []
 rw[Aq (by rw[h];simp)] at hE;have hok:=qy7.1 h;refine C1.im (qV9 s.sch hs.1 d l hl) (by rfl) (by rfl) ?_;simp only[tZ,↓un_u,simprocAttr,bne_iff_ne,Aw];refine⟨fun h2=>?_,fun h2=>?_⟩
 ·obtain⟨a1,a2⟩:=hbad _ h2 (by rw[hE,Aj h2]);rw[a1,a2];exact .oA [] []
 rw[Aq (by rw[h2];simp)] at hE;obtain⟨hd0,hp0⟩:=jP0 h2;refine C1.im (qn4 k 0) (by rfl) (by rfl) ?_;simp only[tZ,↓un_u,simprocAttr,tD,key0];refine⟨fun h3=>?_,fun h3=>?_⟩
 ·obtain⟨a1,a2⟩:=hbad 2 (by decide) (by rw[hE,Aj h3]);rw[a1,a2];exact .oA [] []
 rw[Aq h3] at hE;have hk:0≤k∧k<1152921504606846976:=by omega
 have a1:=hgood hE;rw[a1,hE];clear hbad hgood;have hpl:=zg1 hp0;obtain⟨_,hpk,_⟩:=qm7 hp0;refine C1.im (Wr l (by omega)) (by rfl) (by rfl) ?_;have hO:=qo1 s d hok hd0;have hoR:∀ r∈s.rows.filter (ownP s d),r∈s.rows:=fun r hr=>(List.mem_filter.1 hr).1;have hol:(s.rows.filter (ownP s d)).length≤12:=Nat.le_trans (List.length_filter_le _ _) h12;have hBS:=fun ys=>jH3 (ys:=ys) (l:=l) hok hd0 hk;generalize s.rows.filter (ownP s d)=R at hO hoR hol hBS ⊢
 refine sW ?_;refine⟨by kernel_rfl,?_⟩;refine C1.im hO (by rfl) (by rfl) ?_;refine sW ?_;have hrX:∀ r∈R,0<r.length∧r.length=s.sch.cols.length∧keyP (rowX s l k r):=fun r hr=>by
  have h1:=hok.rows _ (hoR r hr);have h2:=zV9 h1;have h3:=jH2 (n:=hd r) hk (by omega);exact⟨YE h1,(ze6 h1).2.1,jh6 s l k r,h3⟩
 refine qu mixm (α:=Nat) [45] (fun i=>i≤R.length) (fun i=>[(45,vI i)]) (fun i=>[(4096,.arr 5 [srcT s] false),(4104,.arr 4 [extT ext0] false),(36892,.arr 4 [.agg [vS d.proj,vI s.ver,vPs l,.asl 1 i]] false),(1,.arr 1 (((R.take i).map (rowX s l k)).map vIs) false)]) (fun i=>R.length-i) 0 (by omega) ?_ fun i hi=>?_
 ·exact .oA [(4096,some 4096),(4104,some 4104),(36892,some 36892),(1,none)] []
 have htl:((R.take i).map (rowX s l k)).length=i:=by rw[List.length_map,List.length_take];omega
 refine sD ?_;refine⟨fun h4=>?_,fun h4=>?_⟩
 ·have hi2:i<R.length:=by omega
  have hwi:=qj (i:=i) (by omega);have hrXs:(R.take (i+1)).map (rowX s l k)=(R.take i).map (rowX s l k)++[rowX s l k R[i]]:=by rw[qH hi2,List.map_append];rfl
  obtain⟨hrp,hrl,hrk⟩:=hrX _ (AX hi2);have hKey:=qn4 k (hd R[i]);have hgi:=yU hrp;have hX:rowX s l k R[i]=keyI k (hd R[i])::l.map fun p=>qW s.sch p.col p.lev (R[i].getD p.col.toNat 0):=rfl;simp only[tZ,↓un_u,simprocAttr,Ax,qe hi2];refine⟨by omega,?_⟩;generalize R[i]=r at hrXs hrp hrl hrk hKey hgi hX ⊢
  simp only[tZ,↓un_u,simprocAttr,hgi];refine⟨by omega,?_⟩;refine C1.im hKey (by rfl) (by rfl) ?_;refine sW ?_;refine qu mixm (α:=Nat) [14,57] (fun n=>n≤l.length) (fun n=>[(14,.asl 53268 (n+1)),(57,vI n)]) (fun n=>[(4096,.arr 5 [srcT s] false),(4104,.arr 4 [extT ext0] false),(36892,.arr 4 [.agg [vS d.proj,vI s.ver,vPs l,.asl 1 i]] false),(1,.arr 1 (((R.take i).map (rowX s l k)).map vIs) false),(53268,.arr 1 ((keyI k (hd r)::(l.take n).map fun p=>qW s.sch p.col p.lev (r.getD p.col.toNat 0)).map vI) false)]) (fun n=>l.length-n) 0 (by omega) ?_ fun n hn=>?_
  ·exact .oA [(4096,some 4096),(4104,some 4104),(36892,some 36892),(1,some 1),(53268,some 53268)] []
  have hnl:(l.take n).length=n:=by rw[List.length_take];omega
  refine sD ?_;refine⟨fun h5=>?_,fun h5=>?_⟩
  ·have hn2:n<l.length:=by omega
   have hwn:=qj (i:=n) (by omega);have hpn:=qp4 (hpk _ (AX hn2));have hcl:l[n].col.toNat<r.length:=by omega
   have hgc:(r.map vI).getD l[n].col.toNat .junk=vI (r.getD l[n].col.toNat 0):=by rw[qe hcl,qh hcl]
   simp only[tZ,↓un_u,simprocAttr,Ax,qe hn2,hgc];refine⟨by omega,by omega,?_⟩;refine C1.im (zg7 s.sch hs.1 l[n].col l[n].lev _) (by rfl) (by rfl) ?_;simp only[tZ,↓un_u,simprocAttr,hwn];refine⟨⟨hnl,by omega⟩,by kernel_rfl,n+1,by omega,by omega,?_⟩;rw[qH hn2,List.map_append];exact .oA [(4096,some 4096),(4104,some 4104),(36892,some 36892),(1,some 1),(53268,some 53268)] []
  ·have hnl2:n=l.length:=by omega
   subst hnl2;rw[List.take_length,← List.map_cons (f:=vI),← hX];have hXl:(rowX s l k r).length=l.length+1:=by rw[rowX,List.length_cons,List.length_map]
   have htl2:(R.take i).length=i:=by rw[List.length_take];omega
   rw[← hXl];refine W_le [(2,vPs l),(3,vI k),(4,.ptr 4096 1 0 0),(8,.ptr 4104 1 0 0),(11,.ptr 36892 1 0 0),(14,vIs (rowX s l k r)),(43,vRw R),(44,vI R.length),(45,vI i)] [(4096,.arr 5 [srcT s] false),(4104,.arr 4 [extT ext0] false),(36892,.arr 4 [.agg [vS d.proj,vI s.ver,vPs l,.asl 1 i]] false),(1,.arr 1 (((R.take i).map (rowX s l k)).map vIs) false)] ?_ ?_
   ·exact .oA [(4096,some 4096),(4104,some 4104),(36892,some 36892),(1,some 1)] [53268]
   simp only[tZ,↓un_u,simprocAttr,hwi];refine⟨⟨htl2,by omega⟩,htl2,i+1,by omega,by omega,?_⟩;rw[hrXs,List.map_append];exact .oA [(4096,some 4096),(4104,some 4104),(36892,some 36892),(1,some 1)] []
 ·have hil:i=R.length:=by omega
  subst hil;rw[List.take_length];rw[List.take_length] at htl;obtain⟨ys,⟨hp,hso⟩,hSF⟩:=qi0 bidV keyP wC (fun x y hx hy=>qO7 x y hx hy) (R.map (rowX s l k)) (fun x hx=>by
   obtain⟨r,hr,rfl⟩:=List.mem_map.1 hx;exact (hrX r hr).2.2) (by omega)
  have hso:=hso kc6;have hpl2:=hp.length_eq;rw[← hpl2] at hso;have hy:=hBS ys hp hso;rw[htl] at hSF;refine C1.upd 1 1 _ _ hSF (by rfl) (by apply qD;intro _;exact⟨rfl,rfl⟩) (by apply qD;intro _;exact⟨rfl,rfl⟩) ⟨by simp [ltA,ltC,ltC0,TL.get],qu9 (by rfl)⟩ (by rfl) ?_;refine sW ?_;have hyl:ys.length=R.length:=by rw[hpl2,List.length_map]
  refine⟨hyl,?_⟩;rw[← hy,← hyl];exact .oA [] [1]
end Go.Proofs
namespace Go.Proofs
open Go Go.TL
set_option maxRecDepth 4000
set_option maxHeartbeats 8000000
def Qb (s:Sch) (q:Qst) (k:Nat) (lev:Int) (x y:Int):Prop:=qW s k lev x=qW s k lev y∧kk0 s q k x y=true
structure FirstV (s:Sch) (q:Qst) (k:Nat) (lev:Int) (x y:Int):Prop where
 hx:jJ s k x=true
 hy:jJ s k y=true
 lt:x<y
 qb:Qb s q k lev x y
 least:∀ x' y',jJ s k x'=true→jJ s k y'=true→x'<y'→Qb s q k lev x' y'→x<x'∨(x=x'∧y≤y')
structure LeastX (s:Sch) (q:Qst) (k:Nat) (lev:Int) (x:Int):Prop where
 lo:(qk s k).low<x
 hi:x≤(qk s k).high
 qb:Qb s q k lev (x-1) x
 least:∀ y,(qk s k).low<y→y<x→¬ Qb s q k lev (y-1) y
theorem jH4 {s:Sch} {q:Qst} (h:qstE s q=0) {k:Nat} (hk:k<s.cols.length):mxl (yS s q) k=mxl (zh0 s q) k:=by
 rw[qq1 h,zC9 fun k=>qn9 _ _,Aj hk]
end Go.Proofs
namespace Go.Proofs
open Go Go.TL
set_option maxRecDepth 4000
set_option maxHeartbeats 8000000
def qu2 (L:List Int) (f g:Int→Int) (v:Int):Int×Bool:=match L.filter (fun x=>f x==v) with
 | []=>(0,false)
 | x::r=>if (r.all fun y=>g y==g x)=true then (g x,true) else (0,false)
theorem zX0 {L:List Int} {f:Int→Int} {v:Int} {i:Nat} (h:i<L.length):(L.take (i+1)).filter (fun x=>f x==v)=(L.take i).filter (fun x=>f x==v)++if (f L[i]==v)=true then [L[i]] else []:=by
 rw[qH h,List.filter_append]
 congr 1
 split
 ·rename_i h2;rw[List.filter_cons_of_pos (p:=fun x=>f x==v) h2];rfl
 ·rename_i h2;rw[List.filter_cons_of_neg (p:=fun x=>f x==v) h2];rfl
def TcI (g:Int→Int) (M:List Int) (o:Int) (b:Bool):Prop:=(M=[]∧o=0∧b=false)∨∃ x r,M=x::r∧(∀ y∈r,g y=g x)∧o=g x∧b=true
theorem TcI.fin {L:List Int} {f g:Int→Int} {v o:Int} {b:Bool} (h:TcI g (L.filter fun x=>f x==v) o b):qu2 L f g v=(o,b):=by
 unfold qu2;rcases h with⟨h1,h2,h3⟩ | ⟨x,r,h1,h2,h3,h4⟩
 ·rw[h1,h2,h3]
 ·rw[h1,h3,h4];dsimp only;rw[Aj (List.all_eq_true.2 fun y hy=>beq_iff_eq.2 (h2 y hy))]
theorem jn2 {L:List Int} {f g:Int→Int} {v:Int} {i:Nat} (h:i<L.length) {o:Int} (hI:TcI g ((L.take i).filter fun x=>f x==v) o true) (h1:(f L[i]==v)=true) (h2:g L[i]≠o):qu2 L f g v=(0,false):=by
 rcases hI with⟨_,_,h3⟩ | ⟨x,r,h3,h4,h5,_⟩
 ·cases h3
 ·have hL:L.filter (fun x=>f x==v)=x::(r++L[i]::(L.drop (i+1)).filter fun x=>f x==v):=by
   conv=>lhs;rw[← List.take_append_drop i L,List.filter_append,h3,zA2 h,List.filter_cons_of_pos (p:=fun x=>f x==v) h1]
   simp
  unfold qu2;rw[hL];dsimp only;rw[Aq];intro k;have:=List.all_eq_true.1 k L[i] (by simp);rw[AY,← h5] at this;exact h2 this
theorem qO8 (l:CodL) (hl:lstE l=0) (a v b:Int):Spc Tryz.prog Zw [cdlT l,vI a,vI v,vI b] [] (.tup [vI (qu2 (atL l (zh l-1)) (fun x=>upC l x a) (fun x=>upC l x b) v).1,vB (qu2 (atL l (zh l-1)) (fun x=>upC l x a) (fun x=>upC l x b) v).2]) []:=by
 have hlv:=qm5 (l:=l);have hw:IntKind.i64.wrap (zh l-1)=zh l-1:=AK _ (by omega);have hLl:(atL l (zh l-1)).length≤60:=by
  obtain⟨_,d5,d6⟩:=zg hl;unfold atL;rw[Aq (by rw[hl];simp),List.length_map];refine Nat.le_trans (List.length_filter_le _ _) ?_;rw[List.length_range];exact d6
 refine qd qE8 mixm (by simp) fun e _ hst=>qg ?_;unfold QR;refine sW ?_;refine C1.im (ZZ l) (by rfl) (by rfl) ?_;simp only[tZ,↓un_u,simprocAttr,hw];refine C1.im (qp8 l (zh l-1)) (by rfl) (by rfl) ?_;generalize atL l (zh l-1)=L at hLl ⊢
 refine sW ?_;refine⟨by kernel_rfl,?_⟩;refine qu mixm (α:=Nat×Int×Bool) [10,11,21] (fun y=>y.1≤L.length∧TcI (fun x=>upC l x b) ((L.take y.1).filter fun x=>upC l x a==v) y.2.1 y.2.2) (fun y=>[(10,vI y.2.1),(11,vB y.2.2),(21,vI y.1)]) (fun y=>[(4096,.arr 2 [cdlT l] false)]) (fun y=>L.length-y.1) (0,0,false) ⟨by simp,.inl ⟨rfl,rfl,rfl⟩⟩ ?_ fun y hy=>?_
 ·exact .oA [(4096,some 4096)] []
 obtain⟨i,o,t⟩:=y;obtain⟨y1,y2⟩:=hy;dsimp only at y1 y2;refine sD ?_;refine⟨fun h3=>?_,fun h3=>?_⟩
 ·have hi2:i<L.length:=by omega
  have hwi:=qj (i:=i) (by omega);have hsp:=zX0 (f:=fun x=>upC l x a) (v:=v) hi2;have hbad:=fun e=>jn2 (f:=fun x=>upC l x a) (g:=fun x=>upC l x b) (v:=v) (o:=o) hi2 e;have sU:=fun c=>qa4 l L[i] c;simp only[tZ,↓un_u,simprocAttr,Ax,qe hi2];refine⟨by omega,?_⟩;refine C1.im (sU a) (by rfl) (by rfl) ?_;simp only[tZ,↓un_u,simprocAttr,bne_iff_ne,Aw,hwi];generalize L[i]=x at hsp hbad sU ⊢
  refine⟨fun h4=>?_,fun h4=>?_⟩
  ·rw[Aq (by rw[AY];exact h4),List.append_nil] at hsp;refine⟨(i+1,o,t),⟨by dsimp only;omega,by dsimp only;rw[hsp];exact y2⟩,by dsimp only;omega,?_⟩;exact .oA [(4096,some 4096)] []
  ·rw[Aj (beq_iff_eq.2 h4)] at hsp;refine C1.im (sU b) (by rfl) (by rfl) ?_;simp only[tZ,↓un_u,simprocAttr,tD,bne_iff_ne,Aw,hwi];refine⟨fun h5=>?_,fun h5=>?_⟩
   ·rw[h5.1] at y2;rw[hbad y2 (beq_iff_eq.2 h4) h5.2];exact .oA [] []
   ·refine⟨(i+1,upC l x b,true),⟨by dsimp only;omega,?_⟩,by dsimp only;omega,?_⟩
    ·dsimp only;rw[hsp];rcases y2 with⟨k1,k2,k3⟩ | ⟨z,r,k1,k2,k3,k4⟩
     ·exact .inr ⟨x,[],by rw[k1];rfl,by simp,rfl,rfl⟩
     ·right
      have hx:upC l x b=o:=by
       rw[k4] at h5;simpa using h5
      refine⟨z,r++[x],by rw[k1];rfl,fun y hy=>?_,by rw[hx,k3],rfl⟩;rcases List.mem_append.1 hy with hy | hy
      ·exact k2 y hy
      ·rw[List.mem_singleton.1 hy];dsimp only;rw[hx,k3]
    ·exact .oA [(4096,some 4096)] []
 ·have hil:i=L.length:=by omega
  subst hil;rw[List.take_length] at y2;rw[TcI.fin y2];exact .oA [] []
theorem qW1 (s:Sch) (hE:schE s=0) (k:Nat) (hk:k<s.cols.length) (h0:0<k) (h2:(qk s k).kind=2) (a v b:Int) (ha:0≤a∧a≤finI s k) (hb:0≤b∧b≤finI s k):Spc Tryz.prog kZ [schT s,vI k,vI a,vI v,vI b] []
 (let r:=qu2 (qS s k) (fun x=>upC (qJ s k) x a) (fun x=>upC (qJ s k) x b) v;.tup [vI (if r.2=true then r.1 else 0),vB r.2]) []:=by
 have hok:=qV hE;have hat:qk s k=s.cols[k]:=by rw[qk,qh hk]
 obtain⟨d1,d2⟩:=hok.cdl hk h2;have hls:qS s k=atL (qJ s k) (zh (qJ s k)-1):=rfl;have hcd:qJ s k=s.lists.getD (qk s k).list.toNat default:=rfl;have hkk:=(zc (hok.cs k hk)).2.2.2.1 h2;have sT:=wy s hE k;have e1:decide (a<0)=false:=decide_eq_false (by omega);have e2:decide (a>finI s k)=false:=decide_eq_false (by omega);have e3:decide (b<0)=false:=decide_eq_false (by omega);have e4:decide (b>finI s k)=false:=decide_eq_false (by omega);rw[hls];have sC:=qO8 (qJ s k) d2 a v b;generalize qu2 (atL (qJ s k) (zh (qJ s k)-1)) (fun x=>upC (qJ s k) x a) (fun x=>upC (qJ s k) x b) v=r at sC ⊢
 rw[hat] at d1 h2 hcd hkk;rw[hcd,qh d1] at sC;dsimp only;refine qd Jz mixm (by simp) fun e _ hst=>qg ?_;unfold kC;refine sW ?_;refine C1.im sT (by rfl) (by rfl) ?_;simp only[tZ,↓un_u,simprocAttr,e1,e2,e3,e4,Ax,qe hk,AY,Ak];generalize s.cols[k]=x at d1 h2 hkk sC ⊢
 refine⟨by omega,fun _=>?_,fun h=>absurd h2 h⟩;simp only[tZ,↓un_u,simprocAttr,qe d1];refine⟨by omega,?_⟩;refine C1.im sC (by rfl) (by rfl) ?_;simp only[tZ,↓un_u,simprocAttr,Bx,Bz];refine⟨fun h=>?_,fun h=>?_⟩
 ·rw[h,Aq (by simp)];exact .oA [] []
 ·rw[h,Aj rfl];exact .oA [] []
theorem zR1 {f:Nat→Int} {n:Nat} {p:Pk} (h:p∈canF f n):0<p.lev∧p.lev=f p.col.toNat∧0≤p.col∧p.col<n:=by
 obtain⟨k,k1,k2,rfl⟩:=Kr.1 h;exact⟨k2,rfl,by dsimp only;omega,by dsimp only;omega⟩
end Go.Proofs
namespace Go.Proofs
open Go Go.TL
set_option maxRecDepth 4000
set_option maxHeartbeats 8000000
open So
def zt8 (c:Col) (a v b:Int):Int×Bool:=
 if 0<a∧v=yh then ((if b=0 then 0 else v),c.opt)
 else if (Kq c a v).2.2=false then (0,false)
 else if b=0 then (0,true)
 else if a=0∧c.opt=true then (0,false)
 else (qG (Kq c a v).1 (qE c b)*qE c b,qG (Kq c a v).1 (qE c b)*qE c b==qG (Kq c a v).2.1 (qE c b)*qE c b)
theorem jH5 {c:Col} {lev v:Int} (h:lev=0∨(1≤qE c lev∧qE c lev≤1000000)) (hc : -1000000≤c.low∧c.low≤c.high∧c.high≤1000000) : -4000000≤(Kq c lev v).1∧(Kq c lev v).1≤4000000∧-4000000≤(Kq c lev v).2.1∧(Kq c lev v).2.1≤4000000:=by
 unfold Kq;split
 ·dsimp only;omega
 ·split
  ·dsimp only;omega
  ·dsimp only;omega
theorem qt2 (c:Col) (a v b:Int) (hc : -1000000≤c.low∧c.low≤c.high∧c.high≤1000000)
 (ha:a=0∨(1≤a∧a≤c.widths.length∧c.widths.length≤4∧1≤qE c a∧qE c a≤1000000))
 (hb:b=0∨(1≤b∧b≤c.widths.length∧c.widths.length≤4∧1≤qE c b∧qE c b≤1000000)) :
 Spc Tryz.prog wS [colT c,vI a,vI v,vI b] [] (.tup [vI (zt8 c a v b).1,vB (zt8 c a v b).2]) []:=by
 have hm:yh = -1099511627776:=rfl;have hT:zt8 c a v b=if 0<a∧v=yh then ((if b=0 then 0 else v),c.opt)
  else if (Kq c a v).2.2=false then (0,false)
  else if b=0 then (0,true)
  else if a=0∧c.opt=true then (0,false)
  else (qG (Kq c a v).1 (qE c b)*qE c b,qG (Kq c a v).1 (qE c b)*qE c b==qG (Kq c a v).2.1 (qE c b)*qE c b):=rfl
 have hS:=qH9 c a v ha;have hr:=jH5 (v:=v) (show a=0∨(1≤qE c a∧qE c a≤1000000) by omega) hc;generalize Kq c a v=z at hT hS hr;obtain⟨lo,hi,ok⟩:=z;dsimp only at hT hS hr;rw[hT];by_cases h1:0<a∧v=yh
 ·rw[Aj h1];have q1:decide (a>0)=true:=decide_eq_true h1.1;have q2:(v == -1099511627776)=true:=beq_iff_eq.2 (h1.2.trans hm);refine qd Jf mixm (by simp) fun e _ hst=>qg ?_;unfold jz;simp only[tZ,↓un_u,simprocAttr,q1,q2,AY,Ak];refine⟨fun h=>?_,fun h=>?_⟩
  ·rw[Aj h];refine⟨by kernel_rfl,?_⟩;exact .oA [] []
  ·rw[Aq h];refine⟨by kernel_rfl,?_⟩;exact .oA [] []
 rw[Aq h1];have q1:(decide (a>0)&&(v == -1099511627776))=false:=by
  rw[Bool.eq_false_iff];intro k;rw[Bq,AZ,AY] at k;exact h1 k
 refine qd Jf mixm (by simp) fun e _ hst=>qg ?_;unfold jz;simp only[tZ,↓un_u,simprocAttr,q1];refine C1.im hS (by rfl) (by rfl) ?_;simp only[tZ,↓un_u,simprocAttr,Bx,Bz];refine⟨fun h2=>?_,fun h2=>⟨fun h3=>?_,fun h3=>⟨fun h4=>?_,fun h4=>?_⟩⟩⟩
 ·rw[Aj h2];exact .oA [] []
 ·rw[Aq (by rw[h2];simp),Aj (beq_iff_eq.1 h3)];exact .oA [] []
 ·rw[Bq,AY] at h4;rw[Aq (by rw[h2];simp),Aq (beq_eq_false_iff_ne.1 h3),Aj h4];exact .oA [] []
 ·have h5:¬ (a=0∧c.opt=true):=fun k=>by
   rw[← AY,← Bq,h4] at k;cases k
  obtain⟨l1,l2,l3,l4,l5⟩:=hb.resolve_left (beq_eq_false_iff_ne.1 h3);have hW:=Ja c b ⟨l1,l2⟩ (by omega);have hD1:=wM lo (qE c b) (by omega) (by omega);have hD2:=wM hi (qE c b) (by omega) (by omega);rw[Aq (by rw[h2];simp),Aq (beq_eq_false_iff_ne.1 h3),Aq h5];generalize qE c b=w at hW hD1 hD2 l4 l5 ⊢
  refine C1.im hW (by rfl) (by rfl) ?_;refine sW ?_;refine C1.im hD1 (by rfl) (by rfl) ?_;refine sW ?_;refine C1.im hD1 (by rfl) (by rfl) ?_;refine sW ?_;refine C1.im hD2 (by rfl) (by rfl) ?_;refine sW ?_;exact .oA [] []
theorem jH6 {c:Col} (h:measE c=0) : -1000000≤c.low∧c.low≤c.high∧c.high≤1000000:=by
 unfold measE at h;split at h
 ·cases h
 ·rename_i h1;rw[qm8,qm8] at h1;omega
def zh4 (s:Sch) (c a v b:Int):Int×Bool:=
 if inB a 0 (finI s c)=false∨inB b 0 (finI s c)=false then (0,false)
 else
  let r:=if (qk s c.toNat).kind=2 then qu2 (qS s c.toNat) (fun x=>upC (qJ s c.toNat) x a) (fun x=>upC (qJ s c.toNat) x b) v else zt8 (qk s c.toNat) a v b
  (if r.2=true then r.1 else 0,r.2)
theorem qo2 (s:Sch) (hE:schE s=0) (c a v b:Int):Spc Tryz.prog kZ [schT s,vI c,vI a,vI v,vI b] [] (.tup [vI (zh4 s c a v b).1,vB (zh4 s c a v b).2]) []:=by
 have hok:=qV hE;by_cases hin:inB a 0 (finI s c)=false∨inB b 0 (finI s c)=false
 ·have hT:zh4 s c a v b=(0,false):=by rw[zh4,Aj hin]
  have hsm : -1≤finI s c:=by
   by_cases hc:1≤c∧c<s.cols.length
   ·obtain⟨i,rfl⟩:=AJ (show 0≤c by omega);have:=zD2 hE (k:=i) (by omega) (by omega);omega
   ·rw[finI,Aj (by omega)];omega
  rw[hT];have sT:=wy s hE c;refine qd Jz mixm (by simp) fun e _ hst=>qg ?_;unfold kC;refine sW ?_;refine C1.im sT (by rfl) (by rfl) ?_;refine sD ?_;have hh:((a<0∨a>finI s c)∨b<0)∨b>finI s c:=by
   rw[qm8,qm8] at hin;omega
  refine⟨fun _=>?_,fun k=>absurd hh (by omega)⟩;exact .oA [] []
 ·have hA:inB a 0 (finI s c)=true:=by cases h:inB a 0 (finI s c) with
   | true=>rfl
   | false=>exact absurd (.inl h) hin
  have hB:inB b 0 (finI s c)=true:=by cases h:inB b 0 (finI s c) with
   | true=>rfl
   | false=>exact absurd (.inr h) hin
  rw[Jg] at hA hB;obtain⟨_,c1,c2,hfin⟩:=yT (s:=s) (c:=c) (by omega);obtain⟨k,rfl⟩:=AJ (show 0≤c by omega);have hk:k<s.cols.length:=by omega
  have hT:zh4 s k a v b=(let r:=if (qk s k).kind=2 then qu2 (qS s k) (fun x=>upC (qJ s k) x a) (fun x=>upC (qJ s k) x b) v else zt8 (qk s k) a v b
   (if r.2=true then r.1 else 0,r.2)):=by rw[zh4,Aq hin,Ax]
  by_cases h2:(qk s k).kind=2
  ·rw[hT,Aj h2];exact qW1 s hE k hk (by omega) h2 a v b hA hB
  ·rw[hT,Aq h2];have hat:qk s k=s.cols[k]:=by rw[qk,qh hk]
   have hkk:=zc (hok.cs k hk);have h3:(qk s k).kind=3:=by have:=hkk.2.2.1 (by omega);omega
   have hm:=hkk.2.2.2.2 h3;have hwl : -1000000≤(qk s k).low∧(qk s k).low≤(qk s k).high∧(qk s k).high≤1000000:=jH6 hm;have hf:finI s k=(qk s k).widths.length:=by rw[finI,Aq (by omega),Ax,Aq h2]
   have hw:=fun lev (h1:0≤lev∧lev≤finI s k)=>show lev=0∨(1≤lev∧lev≤(qk s k).widths.length∧(qk s k).widths.length≤4∧1≤qE (qk s k) lev∧qE (qk s k) lev≤1000000) by
    rcases Int.lt_or_le 0 lev with q | q
    ·right
     obtain⟨w1,w2,_,w4,_⟩:=hok.wid hk (by omega) h2 (lev:=lev) (by omega);exact⟨by omega,by omega,w4,w1,w2⟩
    ·left;omega
   have sM:=qt2 (qk s k) a v b hwl (hw a hA) (hw b hB);have sT:=wy s hE k;have e1:decide (a<0)=false:=decide_eq_false (by omega);have e2:decide (a>finI s k)=false:=decide_eq_false (by omega);have e3:decide (b<0)=false:=decide_eq_false (by omega);have e4:decide (b>finI s k)=false:=decide_eq_false (by omega);generalize zt8 (qk s k) a v b=r at sM ⊢
   rw[hat] at sM h2;dsimp only;refine qd Jz mixm (by simp) fun e _ hst=>qg ?_;unfold kC;refine sW ?_;refine C1.im sT (by rfl) (by rfl) ?_;simp only[tZ,↓un_u,simprocAttr,e1,e2,e3,e4,Ax,qe hk,AY,Ak];generalize s.cols[k]=x at h2 sM ⊢
   refine⟨by omega,fun h=>absurd h h2,fun _=>?_⟩;refine C1.im sM (by rfl) (by rfl) ?_;simp only[tZ,↓un_u,simprocAttr,Bx,Bz];refine⟨fun h=>?_,fun h=>?_⟩
   ·rw[h,Aq (by simp)];exact .oA [] []
   ·rw[h,Aj rfl];exact .oA [] []
end Go.Proofs
namespace Go.Proofs
open Go Go.TL
set_option maxRecDepth 4000
set_option maxHeartbeats 8000000
theorem zX1 {α:Type} {p:α→Bool} {l:List α} (h:l.any p=true):∃ (i:Nat) (hi:i<l.length),idxI p l=i∧p l[i]=true:=by
 obtain⟨x,hx,hp⟩:=List.any_eq_true.1 h;have hlt:=List.findIdx_lt_length_of_exists ⟨x,hx,hp⟩;exact⟨l.findIdx p,hlt,by rw[idxI,Aj h],List.findIdx_getElem⟩
end Go.Proofs
