/- A part of the proof: trees of Go values, short forms, contracts. -/
import Derived.WalkKit
import Derived.Still
import Derived.MapKept
import GoSem.Builtin.Cap
import Derived.Laws.Externs
import GoSem.Extern.SlicesOverlaps
import Derived.Carry
import Derived.ProofKit
import Derived.OpenShut
import Derived.HandedShaped
import Derived.Lay
import Derived.LaidLaws
import Derived.MakeChecks
import Derived.SevenTiedAt
import Derived.Test.YtiddpnhnaooohaaGreatDoorChecked
import Derived.Test.YtiddpnhnaooohaaGreatDoorK16
set_option linter.unusedSimpArgs false
set_option linter.unusedVariables false
namespace Go.Proofs
open Go Go.TL
structure SrcOk (s:Src):Prop where
 sch:schE s.sch = 0
 nr:s.rows.length≤200
 ng:s.gone.length≤300
 ver:0≤s.ver∧s.ver≤300
 rows:∀ r∈s.rows,rowE s.sch r = 0
 asc:AscR s.rows
 gone:∀ g∈s.gone,1≤g∧g≤1048575∧jk2 s g < 0
 gasc:s.gone.Pairwise fun a b=>a < b
end Go.Proofs
namespace Go.Proofs
open Go Go.TL
set_option maxHeartbeats 4000000
open So
end Go.Proofs
namespace Go.Proofs
open Go Go.TL
set_option maxHeartbeats 4000000
open So
end Go.Proofs
namespace Go.Proofs
open Go Go.TL
set_option maxRecDepth 4000
def iter {α:Type} (f:α→α):Nat→α→α
 | 0,x=>x
 | n + 1,x=>f (iter f n x)
def tie (p:Int×Int):Int:=p.1 * 1024 + p.2
def cut (n:Int):Int×Int:=(n / 1024,n % 1024)
end Go.Proofs
namespace Go.Proofs
open Go Go.TL
set_option maxHeartbeats 4000000
open So
def drw0 (seed id:Int):Int:=IntKind.u64.wrap (IntKind.u64.wrap (IntKind.u64.wrap (IntKind.u64.wrap seed * 2654435761) + IntKind.u64.wrap (IntKind.u64.wrap id * 40503)) + 97)
def drwA (h:Int):Int:=IntKind.u64.wrap (IntKind.u64.wrap (h * 6364136223846793005) + 1442695040888963407)
def drwX (h:Int):Int:=xorI .u64 (drwA h) (shrI .u64 (drwA h) 29)
def drwI (seed id:Int):Int:=IntKind.i64.wrap (shrI .u64 (iter drwX 3 (drw0 seed id)) 32)
def inS (x:Smp) (id:Int):Bool:=(smpE x == 0) && decide (1≤id) && decide (id≤1048575) && decide ((drwI x.seed id).tmod x.of < x.part)
def ownP (s:Src) (d:Dcl) (r:List Int):Bool:=(jm4 s.sch d.coh r == 1) && inS d.smp (hd r)
def ownR (s:Src) (d:Dcl):List (List Int):=if srcB s = false∨dclE s.sch d≠0 then [] else s.rows.filter (ownP s d)
def ownS (s:Src) (d:Dcl):List Int:=(ownR s d).map hd
end Go.Proofs
namespace Go.Proofs
open Go Go.TL
set_option maxHeartbeats 4000000
def buildE (s:Src) (d:Dcl) (l:List Pk) (k:Int):Int:=if srcB s = false then 13 else if jk1 s.sch d l≠0 then jk1 s.sch d l else if k < 0∨k≥1152921504606846976 then 2 else 0
end Go.Proofs
namespace Go.Proofs
open Go Go.TL
set_option maxRecDepth 4000
set_option maxHeartbeats 4000000
def d36:ByteArray:=⟨#[48,49,50,51,52,53,54,55,56,57,97,98,99,100,101,102,103,104,105,106,107,108,109,110,111,112,113,114,115,116,117,118,119,120,121,122]⟩
theorem qG8 {a b:ByteArray} (h:a.data.toList = b.data.toList):a = b:=by
 cases a;cases b
 exact congrArg ByteArray.mk (Array.ext' h)
def dgS (n:Nat):ByteArray:=⟨#[dgt n]⟩
theorem jk4 (n:Nat) (h:n < 10):d36.extract n (n + 1) = dgS n:=by
 have:((List.range 10).all fun n=>(d36.extract n (n + 1)).data.toList == (dgS n).data.toList) = true:=by decide +kernel
 exact qG8 (eq_of_beq (List.all_eq_true.1 this n (List.mem_range.2 h)))
theorem zn3 (c:UInt8) (n:Nat):(⟨#[c]⟩:ByteArray) ++ dgS n = ⟨#[c,dgt n]⟩:=by
 apply qG8
 rw [ByteArray.toList_data_append]
 rfl
theorem je4 (n:Nat) (h:n < 10):Spc Tryz.prog ji [vI n] [] (vS (dgS n)) []:=by
 have h1:=qr (i:=n) (by omega)
 have z1:d36.size = 36:=rfl
 refine qe ZQ mixm (by simp) fun e _ hst=>qo ?_
 unfold zY
 simp only [tZ,↓un_u,simprocAttr,tD,h1,Int.toNat_natCast]
 refine ⟨fun h2=>?_,fun h2=>by omega⟩
 refine ⟨?_,?_⟩
 ·show (0≤(n:Int)∧(n:Int)≤((n + 1:Nat):Int)∧((n + 1:Nat):Int)≤(d36.size:Int))
  omega
 ·show QL [] (vS (d36.extract n (n + 1))) [] (vS (dgS n)) []
  rw [jk4 n (by omega)]
  exact .oA [] []
theorem zn4 (n:Nat) (h:n < 10):Spc Tryz.prog kN [vI n] [] (vS (dgS n)) []:=by
 have h1:Spc Tryz.prog zD [vI n,vI 10] [] (vS (dgS n)) []:=by
  have e1:decide (0≤(n:Int)) = true:=decide_eq_true (by omega)
  have e2:decide ((n:Int) < 100) = true:=decide_eq_true (by omega)
  refine qe Qk mixm (by simp) fun e _ hst=>qo ?_
  unfold zy
  simp only [tZ,↓un_u,simprocAttr,beq_self_eq_true,e1,e2,Bool.true_and]
  refine C1.im (je4 n h) (by rfl) (by rfl) ?_
  refine sW ?_
  exact .oA [] []
 have h2:Spc Tryz.prog ju [vI n] [] (vS (dgS n)) []:=by
  refine qe Je mixm (by simp) fun e _ hst=>qo ?_
  unfold jj
  refine sW ?_
  refine C1.im h1 (by rfl) (by rfl) ?_
  refine sW ?_
  exact .oA [] []
 refine qe qt7 mixm (by simp) fun e _ hst=>qo ?_
 unfold QR
 refine sW ?_
 refine C1.im h2 (by rfl) (by rfl) ?_
 refine sW ?_
 exact .oA [] []
def oneB (l:List UInt8) (a:Nat) (n:Int):Bool:=(nx l a n).1 == n - 1
theorem kX (l:List UInt8) (a:Nat) (n:Int) (hl:l.length≤400) (ha:a≤l.length) (hn:0≤n∧n≤1000000):Spc Tryz.prog zi [.ptr 0 1 0 0,vI n] [(0,oC l a)] (vB (oneB l a n)) [(0,oC l (nx l a n).2)]:=by
 have hw:IntKind.i64.wrap (n - 1) = n - 1:=IntWalk.i64_in _ (by omega)
 refine qe qh4 mixm (by simp) fun e _ hst=>qo ?_
 unfold yq
 refine sW ?_
 refine C1.draw 0 l a _ (jn l a n hl ha hn.2) rfl rfl rfl ?_
 simp only [tZ,↓un_u,simprocAttr,hw]
 rw [show ((nx l a n).1 == n - 1) = oneB l a n from rfl]
 exact .oA [(0,some 0)] []
theorem Zi (l:List UInt8) (a:Nat) (n:Int) (hl:l.length≤400) (ha:a≤l.length) (hn:1≤n∧n≤1000000) :
 ∃ v b,0≤v∧v < n∧b≤l.length∧Spc Tryz.prog qA [.ptr 0 1 0 0,vI n] [(0,oC l a)] (vI v) [(0,oC l b)]:=
 ⟨_,_,(yL l a n hn.1).1,(yL l a n hn.1).2,qm1 l a n ha,jn l a n hl ha hn.2⟩
theorem qL3 (l:List UInt8) (a:Nat) (lo hi:Int) (hl:l.length≤400) (ha:a≤l.length) (hlo : -1000000≤lo∧lo≤1000000) (hhi:lo≤hi∧hi≤lo + 100000) :
 ∃ v b,lo≤v∧v≤hi∧b≤l.length∧Spc Tryz.prog zd [.ptr 0 1 0 0,vI lo,vI hi] [(0,oC l a)] (vI v) [(0,oC l b)]:=by
 have r:=yL l a (hi - lo + 1) (by omega)
 exact ⟨_,_,by omega,by omega,qm1 l a (hi - lo + 1) ha,zU l a lo hi hl ha hlo hhi⟩
theorem je5 (l:List UInt8) (a:Nat) (n:Int) (hl:l.length≤400) (ha:a≤l.length) (hn:0≤n∧n≤1000000) :
 ∃ o b,b≤l.length∧Spc Tryz.prog zi [.ptr 0 1 0 0,vI n] [(0,oC l a)] (vB o) [(0,oC l b)]:=
 ⟨_,_,qm1 l a n ha,kX l a n hl ha hn⟩
theorem je6 (m:Nat) (h:m < 4):wTab.getD m []∈wTab:=by rw [qj (by exact h)];exact List.getElem_mem _
theorem Qt (n:Nat) (l:List UInt8) (a:Nat) (hl:l.length≤400) (ha:a≤l.length) :
 ∃ r:Col×Nat,(DrM n r.1∧r.2≤l.length)∧Spc Tryz.prog kC [.ptr 0 1 0 0,vS ⟨#[109,dgt n]⟩] [(0,oC l a)] (colT r.1) [(0,oC l r.2)]:=by
 have h1:=zU l a (-4) 2 hl ha (by omega) (by omega)
 have r1:=yL l a (2 - -4 + 1) (by omega)
 have b1:=qm1 l a (2 - -4 + 1) ha
 generalize nx l a (2 - -4 + 1) = x1 at h1 r1 b1
 have h2:=jn l x1.2 4 hl b1 (by omega)
 have r2:=yL l x1.2 4 (by omega)
 have b2:=qm1 l x1.2 4 b1
 generalize nx l x1.2 4 = x2 at h2 r2 b2
 have h3:=kX l x2.2 3 hl b2 (by omega)
 have b3:=qm1 l x2.2 3 b2
 generalize (nx l x2.2 3).2 = a3 at h3 b3
 generalize oneB l x2.2 3 = o at h3
 have h4:=jn l a3 45 hl b3 (by omega)
 have r4:=yL l a3 45 (by omega)
 have b4:=qm1 l a3 45 b3
 generalize nx l a3 45 = x4 at h4 r4 b4
 refine ⟨(⟨⟨#[109,dgt n]⟩,3,0,-4 + x1.1,-4 + x1.1 + x4.1,wTab.getD x2.1.toNat [],o⟩,x4.2),⟨⟨rfl,rfl,rfl,by dsimp only;omega,by dsimp only;omega,je6 _ (by omega)⟩,b4⟩,?_⟩
 obtain ⟨m,hm⟩:=Int.eq_ofNat_of_zero_le r2.1
 have hw:IntKind.i64.wrap (-4 + x1.1 + x4.1) = -4 + x1.1 + x4.1:=IntWalk.i64_in _ (by omega)
 refine qe KS mixm (by simp) fun e _ hst=>qo ?_
 unfold jV
 refine sW ?_
 refine C1.draw 0 l a _ h1 rfl rfl rfl ?_
 refine sW ?_
 refine C1.draw 0 l x1.2 _ h2 rfl rfl rfl ?_
 rw [hm] at r2 ⊢
 rw [Int.toNat_natCast]
 have hm4:m = 0∨m = 1∨m = 2∨m = 3:=by omega
 have k0:wTab.getD 0 [] = [1]:=rfl
 have k1:wTab.getD 1 [] = [1,5]:=rfl
 have k2:wTab.getD 2 [] = [1,5,20]:=rfl
 have k3:wTab.getD 3 [] = [1,2,4,12]:=rfl
 rcases hm4 with e | e | e | e
 all_goals (
  subst e
  simp only [tZ,↓un_u,simprocAttr,Int.toNat_natCast,k0,k1,k2,k3]
  repeat (refine ⟨by omega,?_⟩)
  refine C1.draw 0 l x2.2 _ h3 rfl rfl rfl ?_
  refine sW ?_
  refine ⟨by kernel_rfl,?_⟩
  refine C1.draw 0 l a3 _ h4 rfl rfl rfl ?_
  simp only [tZ,↓un_u,simprocAttr,hw]
  refine ⟨by kernel_rfl,?_⟩
  )
 ·exact .oA [(0,some 0)] [8204]
 ·exact .oA [(0,some 0)] [8208]
 ·exact .oA [(0,some 0)] [8212]
 ·exact .oA [(0,some 0)] [8216]
def addN (i:Nat):Nat→List Cod→List Cod
 | 0,cs=>cs
 | k + 1,cs=>addN i k (addL cs i)
theorem qx2 (i:Nat):∀ (k:Nat) (cs:List Cod),(List.range k).foldl (fun cs _=>addL cs i) cs = addN i k cs:=by
 have key:∀ (m:List Nat) (cs:List Cod),m.foldl (fun cs _=>addL cs i) cs = addN i m.length cs:=by
  intro m
  induction m with
  | nil=>intro cs;rfl
  | cons x m ih=>intro cs;rw [List.foldl_cons,ih];rfl
 intro k cs
 rw [key,List.length_range]
theorem qX5:∀ (ns:List Nat) (cs:List Cod) (i n:Nat),lefL cs i (ns ++ [n]) = addN (i + ns.length) n (lefL cs i ns)
 | [],cs,i,n=>by rw [List.nil_append,lefL,lefL,qx2];rfl
 | x :: r,cs,i,n=>by rw [List.cons_append,lefL,lefL,qX5 r _ (i + 1) n,List.length_cons,show i + 1 + r.length = i + (r.length + 1) by omega]
theorem zn5 (i:Nat):∀ (k:Nat) (cs:List Cod),(addN i k cs).length = cs.length + k
 | 0,cs=>rfl
 | k + 1,cs=>by rw [addN,zn5 i k,addL,List.length_append];simp;omega
theorem zn6:∀ (ns:List Nat) (cs:List Cod) (i:Nat),(∀ x∈ns,x = 1∨x = 2)→cs.length + ns.length≤(lefL cs i ns).length∧(lefL cs i ns).length≤cs.length + 2 * ns.length
 | [],cs,i,_=>by rw [lefL];simp
 | x :: r,cs,i,h=>by
   have h1:=zn6 r ((List.range x).foldl (fun cs _=>addL cs i) cs) (i + 1) fun y hy=>h y (List.mem_cons_of_mem _ hy)
   rw [qx2,zn5] at h1
   rw [lefL,qx2,List.length_cons]
   have:=h x (by simp)
   omega
theorem Jm (nm:ByteArray) (hnm:nm = qW0∨nm = qW1) (l:List UInt8) (a:Nat) (hl:l.length≤400) (ha:a≤l.length) :
 ∃ r:CodL×Nat,(DrL nm r.1∧r.2≤l.length)∧Spc Tryz.prog kj [.ptr 0 1 0 0,vS nm] [(0,oC l a)] (cdlT r.1) [(0,oC l r.2)]:=by
 have h1:=zU l a 1 3 hl ha (by omega) (by omega)
 have r1:=yL l a (3 - 1 + 1) (by omega)
 have b1:=qm1 l a (3 - 1 + 1) ha
 generalize nx l a (3 - 1 + 1) = x1 at h1 r1 b1
 obtain ⟨K,hK⟩:=Int.eq_ofNat_of_zero_le (show 0≤1 + x1.1 by omega)
 rw [hK] at h1
 have hK3:1≤K∧K≤3:=by omega
 refine jr qb8 mixm (fun r:CodL×Nat=>cdlT r.1) (fun r=>[(0,oC l r.2)]) (by simp) ?_
 unfold wQ
 refine sW ?_
 refine XE.mp (fun _ _=>C1.draw 0 l a _ h1 rfl rfl rfl) ?_
 refine sW ?_
 have hk0:(Kv 0).map codT = [.agg [vS ⟨#[116,111,112]⟩,vI (-1)]]:=rfl
 have hkl:∀ i,(Kv i).length = i + 1:=fun i=>by simp [Kv]
 have hks:∀ i,Kv (i + 1) = Kv i ++ [kidC i]:=fun i=>by rw [Kv,List.range_succ,List.map_append];rfl
 refine XE.loopF mixm [7] (fun i:Nat=>i≤K) (fun i=>[(7,vI i)]) (fun i=>[(0,oC l x1.2),(4096,.arr 2 [cdlT default] false),(8200,.arr 2 ((Kv i).map codT) false),(8208,.arr 2 [.agg [vS nm,.asl 8200 (i + 1)]] false)]) (fun i=>K - i) 0 (by omega) (fun e ⟨_,hst⟩=>?_) fun T' i hi ih=>?_
 ·simp only [hk0]
  exact .oA [(0,some 0),(4096,some 4096),(8200,some 8200),(8208,some 8208)] []
 simp only [tZ,↓un_u,simprocAttr,decide_eq_true_eq,decide_eq_false_iff_not]
 refine XE.brN (fun h=>?_) (fun h=>?_)
 ·have hwi:=qr (i:=i) (by omega)
  refine XE.mp (fun _ _=>C1.im (zn4 i (by omega)) (by rfl) (by rfl)) ?_
  simp only [tZ,↓un_u,simprocAttr,hwi]
  refine XE.sd (show 1 + 1≤9223372036854775807 by omega) (XE.sd ⟨hkl i,by omega⟩ (XE.sd (hkl i) (XE.sd (by kernel_rfl) ?_)))
  refine XE.next ih (i + 1) (by omega) (by omega) fun e ⟨_,hst⟩=>?_
  rw [zn3,hks]
  exact .oA [(0,some 0),(4096,some 4096),(8200,some 8200),(8208,some 8208)] []
 ·have hiK:i = K:=by omega
  subst hiK
  have h2:=kX l x1.2 2 hl b1 (by omega)
  have b2:=qm1 l x1.2 2 b1
  generalize (nx l x1.2 2).2 = a2 at h2 b2
  generalize oneB l x1.2 2 = o at h2
  refine XE.mp (fun _ _=>C1.draw 0 l x1.2 _ h2 rfl rfl rfl) ?_
  refine sW ?_
  refine XE.brB (fun h3=>?_) (fun h3=>?_)
  ·refine XE.fin (⟨nm,Kv i⟩,a2) ⟨⟨rfl,(zI5 hnm hK3).1,by rw [hkl];omega⟩,b2⟩ fun e ⟨_,hst⟩=>?_
   have hkli:=hkl i
   refine ⟨hkl i,?_⟩
   exact .oA [(0,some 0)] [8200]
  ·refine XE.loopF mixm [8] (fun y:List Nat×Nat=>y.1.length≤i∧(∀ x∈y.1,x = 1∨x = 2)∧y.2≤l.length) (fun y=>[(8,vI y.1.length)]) (fun y=>[(0,oC l y.2),(4096,.arr 2 [cdlT default] false),(8200,.arr 2 ((lefL (Kv i) 0 y.1).map codT) false),(8208,.arr 2 [.agg [vS nm,.asl 8200 (lefL (Kv i) 0 y.1).length]] false)]) (fun y=>i - y.1.length) ([],a2) ⟨by simp,by simp,b2⟩ (fun e ⟨_,hst⟩=>?_) fun T2 y hy ih2=>?_
   ·have hkli:=hkl i
    simp only [lefL]
    refine .of [(0,some 0),(4096,some 4096),(8200,some 8200),(8208,some 8208)] [] rfl (by first | rfl | (rw [hst];rfl)) ?_ ?_
    all_goals (try simp only [tL,simprocAttr,List.map_append,List.map_cons,List.map_nil,List.cons_append,List.nil_append,hkl])
    all_goals (try (repeat' (first | exact zg | (apply zR;intro _;exact ⟨rfl,rfl⟩) | (apply qM;intro _;exact ⟨rfl,rfl⟩) | with_reducible apply qV | with_reducible refine qR ⟨rfl,rfl⟩ ?_ | exact zh | with_reducible apply qT | with_reducible refine qQ ⟨rfl,rfl,?_⟩ ?_ | with_reducible apply And.intro | exact qU rfl | exact qU (by assumption) | (refine ⟨⟨?_,rfl,?_,rfl,?_⟩,trivial⟩ <;> first | (simp;done) | (apply qM;intro _;exact ⟨rfl,rfl⟩)) | trivial | rfl | (rw [qr (by omega)]) | omega)))
   obtain ⟨ns,a3⟩:=y
   obtain ⟨y1,y2,y3⟩:=hy
   dsimp only at y1 y2 y3
   have hll:=zn6 ns (Kv i) 0 y2
   rw [hkl] at hll
   simp only [tZ,↓un_u,simprocAttr,decide_eq_true_eq,decide_eq_false_iff_not]
   refine XE.brN (fun h4=>?_) (fun h4=>?_)
   ·have h5:=zU l a3 1 2 hl y3 (by omega) (by omega)
    have r5:=yL l a3 (2 - 1 + 1) (by omega)
    have b5:=qm1 l a3 (2 - 1 + 1) y3
    generalize nx l a3 (2 - 1 + 1) = x5 at h5 r5 b5
    obtain ⟨M,hM⟩:=Int.eq_ofNat_of_zero_le (show 0≤1 + x5.1 by omega)
    rw [hM] at h5
    have hsn:=qX5 ns (Kv i) 0 M
    rw [Nat.zero_add] at hsn
    refine XE.mp (fun _ _=>C1.draw 0 l a3 _ h5 rfl rfl rfl) ?_
    refine sW ?_
    generalize lefL (Kv i) 0 ns = cs at hll hsn ⊢
    refine XE.loopF mixm [9] (fun z:Nat×List Cod=>addN ns.length z.1 z.2 = addN ns.length M cs∧z.2.length + z.1 = cs.length + M) (fun z=>[(9,vI z.1)]) (fun z=>[(0,oC l x5.2),(4096,.arr 2 [cdlT default] false),(8200,.arr 2 (z.2.map codT) false),(8208,.arr 2 [.agg [vS nm,.asl 8200 z.2.length]] false)]) (fun z=>z.1) (M,cs) ⟨rfl,rfl⟩ (fun e ⟨_,hst⟩=>?_) fun T3 z hz ih3=>?_
    ·exact .oA [(0,some 0),(4096,some 4096),(8200,some 8200),(8208,some 8208)] []
    obtain ⟨k,ds⟩:=z
    obtain ⟨z1,z2⟩:=hz
    dsimp only at z1 z2
    simp only [tZ,↓un_u,simprocAttr,decide_eq_true_eq,decide_eq_false_iff_not]
    refine XE.brN (fun h6=>?_) (fun h6=>?_)
    ·have hwn:=qr (i:=ns.length) (by omega)
     have hwk:=Jz (i:=k) (by omega) (by omega)
     have hw1:IntKind.i64.wrap (1 + (ns.length:Int)) = 1 + (ns.length:Int):=IntWalk.i64_in _ (by omega)
     refine XE.mp (fun _ _=>C1.im (zn4 ds.length (by omega)) (by rfl) (by rfl)) ?_
     simp only [tZ,↓un_u,simprocAttr,hwk,hw1]
     refine XE.sd (show 1 + 1≤9223372036854775807 by omega) (XE.sd (by omega) (XE.sd (by kernel_rfl) ?_))
     refine XE.next ih3 (k - 1,addL ds ns.length) ⟨?_,by dsimp only;rw [addL,List.length_append];simp;omega⟩ (by dsimp only;omega) fun e ⟨_,hst⟩=>?_
     ·dsimp only
      rw [← z1]
      obtain ⟨j,rfl⟩:∃ j,k = j + 1:=⟨k - 1,by omega⟩
      rfl
     ·rw [zn3]
      have e1:addL ds ns.length = ds ++ [⟨⟨#[108,dgt ds.length]⟩,1 + (ns.length:Int)⟩]:=rfl
      rw [e1]
      exact .oA [(0,some 0),(4096,some 4096),(8200,some 8200),(8208,some 8208)] []
    ·have hk0:k = 0:=by omega
     subst hk0
     have hwn:=qr (i:=ns.length) (by omega)
     rw [addN,← hsn] at z1
     simp only [tZ,↓un_u,simprocAttr,hwn]
     refine XE.next ih2 (ns ++ [M],x5.2) ⟨by simp;omega,fun x hx=>?_,b5⟩ (by simp;omega) fun e ⟨_,hst⟩=>?_
     ·rcases List.mem_append.1 hx with hx | hx
      ·exact y2 x hx
      ·rw [List.mem_singleton.1 hx];omega
     ·simp only [z1,List.length_append,List.length_cons,List.length_nil]
      rw [← z1]
      exact .oA [(0,some 0),(4096,some 4096),(8200,some 8200),(8208,some 8208)] []
   ·have hni:ns.length = i:=by omega
    have hok:=(zI5 hnm hK3).2 ns hni y2
    refine XE.fin (⟨nm,lefL (Kv i) 0 ns⟩,a3) ⟨⟨rfl,hok,by dsimp only;omega⟩,y3⟩ fun e ⟨_,hst⟩=>?_
    exact .oA [(0,some 0)] [8200]
end Go.Proofs
namespace Go.Proofs
open Go Go.TL
set_option maxRecDepth 4000
set_option maxHeartbeats 4000000
theorem YO (l:List UInt8) (a:Nat) (hl:l.length≤400) (ha:a≤l.length) :
 ∃ r:Sch×Nat,(DrS r.1∧r.2≤l.length)∧Spc Tryz.prog js [.ptr 0 1 0 0] [(0,oC l a)] (schT r.1) [(0,oC l r.2)]:=by
 obtain ⟨⟨A,a1⟩,⟨dA,ha1⟩,sA⟩:=Jm qW0 (.inl rfl) l a hl ha
 obtain ⟨⟨B,a2⟩,⟨dB,ha2⟩,sB⟩:=Jm qW1 (.inr rfl) l a1 hl ha1
 dsimp only at dA ha1 sA dB ha2 sB
 have h1:=kX l a2 2 hl ha2 (by omega)
 have b1:=qm1 l a2 2 ha2
 generalize (nx l a2 2).2 = a3 at h1 b1
 generalize oneB l a2 2 = o at h1
 have h2:=zU l a3 1 3 hl b1 (by omega) (by omega)
 have r2:=yL l a3 (3 - 1 + 1) (by omega)
 have b2:=qm1 l a3 (3 - 1 + 1) b1
 generalize nx l a3 (3 - 1 + 1) = x2 at h2 r2 b2
 obtain ⟨N,hN⟩:=Int.eq_ofNat_of_zero_le (show 0≤1 + x2.1 by omega)
 rw [hN] at h2
 refine jr WF mixm (fun r:Sch×Nat=>schT r.1) (fun r=>[(0,oC l r.2)]) (by simp) ?_
 unfold kG
 refine sW ?_
 refine XE.mp (fun _ _=>C1.draw 0 l a _ sA rfl rfl rfl) ?_
 refine sW ?_
 refine XE.mp (fun _ _=>C1.draw 0 l a1 _ sB rfl rfl rfl) ?_
 refine sW ?_
 refine XE.mp (fun _ _=>C1.draw 0 l a2 _ h1 rfl rfl rfl) ?_
 refine sW ?_
 refine XE.brB (fun ho=>?_) (fun ho=>?_)
 ·refine XE.mp (fun _ _=>C1.draw 0 l a3 _ h2 rfl rfl rfl) ?_
  refine sW ?_
  refine XE.loopF mixm [4,15] (fun y:List Col×Nat=>y.1.length≤N∧(∀ i (h:i < y.1.length),DrM (3 + i) y.1[i])∧y.2≤l.length) (fun y=>[(4,vI ((N - y.1.length:Nat):Int))]) (fun y=>[(0,oC l y.2),(4096,.arr 2 [schT default] false),(8208,.arr 2 [cdlT A,cdlT B] false),(8220,.arr 7 (([whoC,sexC,jobC] ++ y.1).map colT) false),(8228,.arr 2 [.agg [.asl 8208 2,.asl 8220 (3 + y.1.length)]] false)]) (fun y=>N - y.1.length) ([],x2.2) ⟨by simp,fun i h=>by simp at h,b2⟩ (fun e ⟨_,hst⟩=>?_) fun T' y hy ih=>?_
  ·show Le _ _ ⟨[(4,vI N),(0,_),(2,_),(3,_)],[(0,oC l x2.2),(4096,.arr 2 [schT default] false),(8208,.arr 2 [cdlT A,cdlT B] false),(8220,.arr 7 [colT whoC,colT sexC,colT jobC] false),(8228,.arr 2 [.agg [.asl 8208 2,.asl 8220 3]] false)]⟩
   exact .oA [(0,some 0),(4096,some 4096),(8208,some 8208),(8220,some 8220),(8228,some 8228)] []
  obtain ⟨ms,a4⟩:=y
  obtain ⟨y1,y2,y3⟩:=hy
  dsimp only at y1 y2 y3
  simp only [tZ,↓un_u,simprocAttr,decide_eq_true_eq,decide_eq_false_iff_not]
  refine XE.brN (fun h4=>?_) (fun h4=>?_)
  ·have hlt:ms.length < N:=by omega
   have hI:=zn4 (3 + ms.length) (by omega)
   obtain ⟨⟨M,a5⟩,⟨dM,ha5⟩,sM⟩:=Qt (3 + ms.length) l a4 hl y3
   dsimp only at dM ha5 sM
   have hwk:=Jz (i:=N - ms.length) (by omega) (by omega)
   refine XE.sd (by omega) ?_
   refine XE.mp (fun _ _=>C1.im hI (by rfl) (by rfl)) ?_
   simp only [tZ,↓un_u,simprocAttr,zn3]
   refine XE.sd (show 1 + 1≤9223372036854775807 by omega) ?_
   refine XE.mp (fun _ _=>C1.draw 0 l a4 _ sM rfl rfl rfl) ?_
   simp only [tZ,↓un_u,simprocAttr,hwk]
   refine XE.sd (by omega) (XE.sd (by omega) (XE.sd (by kernel_rfl) ?_))
   refine XE.next ih (ms ++ [M],a5) ⟨by simp;omega,fun i h=>?_,ha5⟩ (by simp;omega) fun e ⟨_,hst⟩=>?_
   ·dsimp only at h ⊢
    by_cases hi:i < ms.length
    ·rw [List.getElem_append_left hi]
     exact y2 i hi
    ·have he:i = ms.length:=by rw [List.length_append] at h;simp at h;omega
     subst he
     rw [List.getElem_append_right (Nat.le_refl _)]
     simpa using dM
   ·have e1:N - (ms ++ [M]).length = N - ms.length - 1:=by rw [List.length_append];simp;omega
    simp only [e1]
    exact .oA [(0,some 0),(4096,some 4096),(8208,some 8208),(8220,some 8220),(8228,some 8228)] []
  ·have hnl:ms.length = N:=by omega
   refine XE.fin (⟨[A,B],[whoC,sexC,jobC] ++ ms⟩,a4) ⟨⟨⟨A,B,rfl,dA,dB⟩,⟨ms,.inr ⟨rfl,y2⟩,by omega,by omega⟩⟩,y3⟩ fun e ⟨_,hst⟩=>?_
   refine ⟨by omega,?_⟩
   exact .oA [(0,some 0)] [8208,8220]
 ·refine XE.mp (fun _ _=>C1.draw 0 l a3 _ h2 rfl rfl rfl) ?_
  refine sW ?_
  refine XE.loopF mixm [4,15] (fun y:List Col×Nat=>y.1.length≤N∧(∀ i (h:i < y.1.length),DrM (2 + i) y.1[i])∧y.2≤l.length) (fun y=>[(4,vI ((N - y.1.length:Nat):Int))]) (fun y=>[(0,oC l y.2),(4096,.arr 2 [schT default] false),(8208,.arr 2 [cdlT A,cdlT B] false),(8220,.arr 7 (([whoC,sexC] ++ y.1).map colT) false),(8228,.arr 2 [.agg [.asl 8208 2,.asl 8220 (2 + y.1.length)]] false)]) (fun y=>N - y.1.length) ([],x2.2) ⟨by simp,fun i h=>by simp at h,b2⟩ (fun e ⟨_,hst⟩=>?_) fun T' y hy ih=>?_
  ·show Le _ _ ⟨[(4,vI N),(0,_),(2,_),(3,_)],[(0,oC l x2.2),(4096,.arr 2 [schT default] false),(8208,.arr 2 [cdlT A,cdlT B] false),(8220,.arr 7 [colT whoC,colT sexC] false),(8228,.arr 2 [.agg [.asl 8208 2,.asl 8220 2]] false)]⟩
   exact .oA [(0,some 0),(4096,some 4096),(8208,some 8208),(8220,some 8220),(8228,some 8228)] []
  obtain ⟨ms,a4⟩:=y
  obtain ⟨y1,y2,y3⟩:=hy
  dsimp only at y1 y2 y3
  simp only [tZ,↓un_u,simprocAttr,decide_eq_true_eq,decide_eq_false_iff_not]
  refine XE.brN (fun h4=>?_) (fun h4=>?_)
  ·have hlt:ms.length < N:=by omega
   have hI:=zn4 (2 + ms.length) (by omega)
   obtain ⟨⟨M,a5⟩,⟨dM,ha5⟩,sM⟩:=Qt (2 + ms.length) l a4 hl y3
   dsimp only at dM ha5 sM
   have hwk:=Jz (i:=N - ms.length) (by omega) (by omega)
   refine XE.sd (by omega) ?_
   refine XE.mp (fun _ _=>C1.im hI (by rfl) (by rfl)) ?_
   simp only [tZ,↓un_u,simprocAttr,zn3]
   refine XE.sd (show 1 + 1≤9223372036854775807 by omega) ?_
   refine XE.mp (fun _ _=>C1.draw 0 l a4 _ sM rfl rfl rfl) ?_
   simp only [tZ,↓un_u,simprocAttr,hwk]
   refine XE.sd (by omega) (XE.sd (by omega) (XE.sd (by kernel_rfl) ?_))
   refine XE.next ih (ms ++ [M],a5) ⟨by simp;omega,fun i h=>?_,ha5⟩ (by simp;omega) fun e ⟨_,hst⟩=>?_
   ·dsimp only at h ⊢
    by_cases hi:i < ms.length
    ·rw [List.getElem_append_left hi]
     exact y2 i hi
    ·have he:i = ms.length:=by rw [List.length_append] at h;simp at h;omega
     subst he
     rw [List.getElem_append_right (Nat.le_refl _)]
     simpa using dM
   ·have e1:N - (ms ++ [M]).length = N - ms.length - 1:=by rw [List.length_append];simp;omega
    simp only [e1]
    exact .oA [(0,some 0),(4096,some 4096),(8208,some 8208),(8220,some 8220),(8228,some 8228)] []
  ·have hnl:ms.length = N:=by omega
   refine XE.fin (⟨[A,B],[whoC,sexC] ++ ms⟩,a4) ⟨⟨⟨A,B,rfl,dA,dB⟩,⟨ms,.inl ⟨rfl,y2⟩,by omega,by omega⟩⟩,y3⟩ fun e ⟨_,hst⟩=>?_
   refine ⟨by omega,?_⟩
   exact .oA [(0,some 0)] [8208,8220]
end Go.Proofs
namespace Go.Proofs
open Go Go.TL
set_option maxRecDepth 4000
set_option maxHeartbeats 4000000
theorem DrS.col {s:Sch} (h:DrS s) {i:Nat} (hi:i < s.cols.length) (hk:(qd s i).kind = 3):∃ n,DrM n (qd s i):=by
 obtain ⟨ms,hc,h1,h3⟩:=h.cs
 have key:∀ (pre:List Col) (n:Nat),(∀ c∈pre,c.kind≠3)→s.cols = pre ++ ms→(∀ j (hj:j < ms.length),DrM (n + j) ms[j])→∃ n,DrM n (qd s i):=by
  intro pre n hp he hm
  rw [qd,qj hi] at hk ⊢
  by_cases c:i < pre.length
  ·have e:s.cols[i] = pre[i]:=by simp only [he];exact List.getElem_append_left c
   rw [e] at hk
   exact absurd hk (hp _ (List.getElem_mem c))
  ·have hl:i - pre.length < ms.length:=by rw [he,List.length_append] at hi;omega
   have e:s.cols[i] = ms[i - pre.length]:=by simp only [he];exact List.getElem_append_right (by omega)
   rw [e]
   exact ⟨_,hm _ hl⟩
 rcases hc with ⟨hc,hm⟩ | ⟨hc,hm⟩
 ·exact key [whoC,sexC] 2 (by simp [whoC,sexC]) (by rw [hc];rfl) hm
 ·exact key [whoC,sexC,jobC] 3 (by simp [whoC,sexC,jobC]) (by rw [hc];rfl) hm
theorem DrS.nl {s:Sch} (h:DrS s):s.lists.length = 2:=by
 obtain ⟨a,b,e,_⟩:=h.ls
 rw [e];rfl
structure DrX (x:Src):Prop where
 sch:DrS x.sch
 ok:SrcOk x
 gone:x.gone = []
 ver:x.ver = 0
end Go.Proofs
namespace Go.Proofs
open Go Go.TL
set_option maxRecDepth 4000
set_option maxHeartbeats 4000000
def JY (s:Sch) (kind:Int) (n:Nat):List Int:=List.map (fun i:Nat=>(i:Int)) ((List.range n).filter fun i=>(qd s i).kind == kind)
theorem jI (s:Sch) (kind:Int) (n:Nat):JY s kind (n + 1) = JY s kind n ++ (if (qd s n).kind = kind then [(n:Int)] else []):=by
 unfold JY
 rw [List.range_succ,List.filter_append,List.map_append]
 congr 1
 by_cases h:(qd s n).kind = kind
 ·rw [if_pos h,List.filter_cons,if_pos (beq_iff_eq.2 h)];rfl
 ·rw [if_neg h,List.filter_cons,if_neg (by rw [beq_iff_eq];exact h)];rfl
theorem qe4 (s:Sch) (kind:Int) (n:Nat):(JY s kind n).length≤n:=by
 unfold JY
 rw [List.length_map]
 exact Nat.le_trans (List.length_filter_le _ _) (by simp)
def ZT (s:Sch) (kind:Int):List Int:=JY s kind s.cols.length
theorem Zj {s:Sch} {kind v:Int}:v∈ZT s kind↔isB s v kind = true:=by
 unfold ZT JY
 rw [zA]
 simp only [List.mem_map,List.mem_filter,List.mem_range,beq_iff_eq]
 constructor
 ·rintro ⟨i,⟨h1,h2⟩,rfl⟩;exact ⟨by omega,by omega,by rw [Int.toNat_natCast];exact h2⟩
 ·rintro ⟨h1,h2,h3⟩;exact ⟨v.toNat,⟨by omega,h3⟩,by omega⟩
theorem yP (s:Sch) (kind:Int) (hn:s.cols.length≤1000):Spc Tryz.prog jH [schT s,vI kind] [] (vIs (ZT s kind)) []:=by
 refine qe qu7 mixm (by simp) fun e _ hst=>qo ?_
 unfold QW
 refine sW ?_
 refine qE mixm (α:=Nat) [5,10] (fun i=>i≤s.cols.length) (fun i=>[(5,.asl 1 (JY s kind i).length),(10,vI i)]) (fun i=>[(4096,.arr 2 [schT s] false),(1,.arr 1 ((JY s kind i).map vI) false)]) (fun i=>s.cols.length - i) 0 (by omega) ?_ fun i hi=>?_
 ·show Le _ _ ⟨_,[(4096,.arr 2 [schT s] false),(1,.arr 1 [] false)]⟩
  exact .oA [(4096,some 4096),(1,none)] []
 have hfl:=qe4 s kind i
 refine sD ?_
 refine ⟨fun h=>?_,fun h=>?_⟩
 ·have hi2:i < s.cols.length:=by omega
  have hwi:=qr (i:=i) (by omega)
  have hat:qd s i = s.cols[i]:=by rw [qd,qj hi2]
  have hsu:=jI s kind i
  rw [hat] at hsu
  simp only [tZ,↓un_u,simprocAttr,Int.toNat_natCast,qg hi2,hwi,beq_iff_eq,beq_eq_false_iff_ne]
  refine ⟨by omega,fun h2=>?_,fun h2=>?_⟩
  ·rw [if_pos h2] at hsu
   refine ⟨by omega,i + 1,by omega,by omega,?_⟩
   rw [hsu]
   exact .oA [(4096,some 4096),(1,some 1)] []
  ·rw [if_neg h2,List.append_nil] at hsu
   refine ⟨i + 1,by omega,by omega,?_⟩
   rw [hsu]
   exact .oA [(4096,some 4096),(1,some 1)] []
 ·have hil:i = s.cols.length:=by omega
  subst hil
  exact .oA [] [1]
theorem DrS.code {s:Sch} (h:DrS s):0 < (ZT s 2).length∧(ZT s 2).length≤8:=by
 have hnc:=(qK h.ok).nc
 have hl:=qe4 s 2 s.cols.length
 refine ⟨List.length_pos_of_mem (a:=1) (Zj.2 (zA.2 ?_)),by unfold ZT;omega⟩
 obtain ⟨ms,hc,h1,h3⟩:=h.cs
 rcases hc with ⟨hc,hm⟩ | ⟨hc,hm⟩
 ·refine ⟨by omega,by rw [hc];simp;omega,by rw [qd,hc];rfl⟩
 ·refine ⟨by omega,by rw [hc];simp;omega,by rw [qd,hc];rfl⟩
theorem DrS.meas {s:Sch} (h:DrS s):0 < (ZT s 3).length∧(ZT s 3).length≤8:=by
 have hnc:=(qK h.ok).nc
 have hl:=qe4 s 3 s.cols.length
 refine ⟨?_,by unfold ZT;omega⟩
 obtain ⟨ms,hc,h1,h3⟩:=h.cs
 rcases hc with ⟨hc,hm⟩ | ⟨hc,hm⟩
 ·refine List.length_pos_of_mem (a:=2) (Zj.2 (zA.2 ⟨by omega,by rw [hc];simp;omega,?_⟩))
  have:=(hm 0 h1).kind
  rw [qd,hc]
  show ((whoC :: sexC :: ms).getD 2 default).kind = 3
  rw [qj (by simp;omega)]
  exact this
 ·refine List.length_pos_of_mem (a:=3) (Zj.2 (zA.2 ⟨by omega,by rw [hc];simp;omega,?_⟩))
  have:=(hm 0 h1).kind
  rw [qd,hc]
  show ((whoC :: sexC :: jobC :: ms).getD 3 default).kind = 3
  rw [qj (by simp;omega)]
  exact this
theorem zJ3 (s:Sch) (hd:DrS s) (l:List UInt8) (a:Nat) (hl:l.length≤400) (ha:a≤l.length) :
 ∃ (v:Nat) (b:Nat),isB s v 2 = true∧b≤l.length∧Spc Tryz.prog wF [.ptr 0 1 0 0,schT s] [(0,oC l a)] (vI v) [(0,oC l b)]:=by
 have hnc:=(qK hd.ok).nc
 have hc:=yP s 2 (by omega)
 have hm:=fun v=>(Zj (s:=s) (kind:=2) (v:=v)).1
 obtain ⟨k1,k2⟩:=hd.code
 generalize ZT s 2 = L at hc hm k1 k2
 obtain ⟨j,b,j1,j2,hb,sN⟩:=Zi l a L.length hl ha (by omega)
 obtain ⟨m,rfl⟩:=Int.eq_ofNat_of_zero_le j1
 have hmL:m < L.length:=by omega
 have hv:=hm _ (List.getElem_mem hmL)
 obtain ⟨v,e⟩:=Int.eq_ofNat_of_zero_le (zA.1 hv).1
 refine ⟨v,b,by rw [← e];exact hv,hb,?_⟩
 rw [← e]
 refine qe Yy mixm (by simp) fun e _ hst=>qo ?_
 unfold wm
 refine sW ?_
 refine C1.im hc (by rfl) (by rfl) ?_
 refine sW ?_
 refine C1.draw 0 l a _ sN rfl rfl rfl ?_
 simp only [tZ,↓un_u,simprocAttr,Int.toNat_natCast,qg hmL]
 refine ⟨by omega,?_⟩
 exact .oA [(0,some 0)] []
theorem yF (s:Sch) (hd:DrS s) (l:List UInt8) (a:Nat) (hl:l.length≤400) (ha:a≤l.length) :
 ∃ (v:Nat) (b:Nat),isB s v 3 = true∧b≤l.length∧Spc Tryz.prog zu [.ptr 0 1 0 0,schT s] [(0,oC l a)] (vI v) [(0,oC l b)]:=by
 have hnc:=(qK hd.ok).nc
 have hc:=yP s 3 (by omega)
 have hm:=fun v=>(Zj (s:=s) (kind:=3) (v:=v)).1
 obtain ⟨k1,k2⟩:=hd.meas
 generalize ZT s 3 = L at hc hm k1 k2
 obtain ⟨j,b,j1,j2,hb,sN⟩:=Zi l a L.length hl ha (by omega)
 obtain ⟨m,rfl⟩:=Int.eq_ofNat_of_zero_le j1
 have hmL:m < L.length:=by omega
 have hv:=hm _ (List.getElem_mem hmL)
 obtain ⟨v,e⟩:=Int.eq_ofNat_of_zero_le (zA.1 hv).1
 refine ⟨v,b,by rw [← e];exact hv,hb,?_⟩
 rw [← e]
 refine qe Ko mixm (by simp) fun e _ hst=>qo ?_
 unfold jL
 refine sW ?_
 refine C1.im hc (by rfl) (by rfl) ?_
 refine sW ?_
 refine C1.draw 0 l a _ sN rfl rfl rfl ?_
 simp only [tZ,↓un_u,simprocAttr,Int.toNat_natCast,qg hmL]
 refine ⟨by omega,?_⟩
 exact .oA [(0,some 0)] []
end Go.Proofs
namespace Go.Proofs
open Go Go.TL
set_option maxRecDepth 4000
set_option maxHeartbeats 8000000
mutual
def sizC:Cnd→Nat
 | .mk _ _ _ _ _ ks=>qe5 ks + 1
def qe5:List Cnd→Nat
 | []=>0
 | k :: r=>sizC k + qe5 r
end
theorem qL4 (c:Cnd):sizC c = qe5 c.kids + 1:=by cases c;rw [sizC];rfl
theorem je7:∀ c,∀ m,1≤m→cntC c m≤sizC c:=by
 refine Cnd.ind' fun c ih m hm=>?_
 rw [YI,qL4]
 have key:∀ l:List Cnd,(∀ k∈l,k∈c.kids)→∀ n,n≤m→yc l m n≤n + qe5 l:=by
  intro l
  induction l with
  | nil=>intro _ n h;rw [yc,qe5];omega
  | cons k r ihl=>
    intro hk n h
    rw [yc,qe5]
    split
    ·have c1:=qw7 k (m - n) (by omega)
     have c2:=ih k (hk k (by simp)) (m - n) (by omega)
     have c3:=ihl (fun x hx=>hk x (List.mem_cons_of_mem _ hx)) (n + cntC k (m - n)) (by omega)
     omega
    ·omega
 have:=key c.kids (fun k hk=>hk) 1 (by omega)
 omega
structure CndOk (s:Sch) (n:Nat) (c:Cnd):Prop where
 ok:nodE s c = 0
 dep:depC c≤n + 1
 siz:sizC c + 1≤2 ^ (n + 1)
theorem CndOk.chk {s:Sch} {n:Nat} {c:Cnd} (h:CndOk s n c) (hE:schE s = 0) (hn:n≤3):chkC s c = 0:=by
 have h1:=je7 c 41 (by omega)
 have h2:=h.siz
 have h3:=h.dep
 have h4:2 ^ (n + 1)≤2 ^ 4:=Nat.pow_le_pow_right (by omega) (by omega)
 rw [chkC,if_neg (by rw [hE];simp),if_neg (by omega),if_neg (by omega)]
 exact h.ok
theorem zc9 {s:Sch} {c:Cnd} (h1:ndE s c = 0) (h2:Qq s c.kids = 0):nodE s c = 0:=by rw [zc8,if_neg (by rw [h1];simp)];exact h2
theorem Qr {s:Sch} {c:Cnd} (n:Nat) (h1:ndE s c = 0) (h2:c.kids = []):CndOk s n c:=by
 have h3:2 ^ 1≤2 ^ (n + 1):=Nat.pow_le_pow_right (by omega) (by omega)
 refine ⟨zc9 h1 (by rw [h2,Qq]),by rw [qw6,h2,wt];omega,by rw [qL4,h2,qe5];omega⟩
theorem zJ4 {s:Sch} {c:Cnd} (h1:¬ (c.op < 1∨7 < c.op)) (h2:¬ (c.kids.length≠arC c.op∨(c.op≠2∧c.op≠3∧c.op≠4∧c.col≠0)∨(c.op≠2∧c.code≠0)∨(c.op≠3∧(c.lo≠0∨c.hi≠0))))
 (h3:¬ ((c.op = 2∧isB s c.col 2 = false)∨(c.op = 3∧isB s c.col 3 = false)∨(c.op = 4∧(isB s c.col 3 = false∨(qd s c.col.toNat).opt = false))))
 (h4:¬ (c.op = 2∧(c.code < 0∨c.code≥(qJ s c.col.toNat).codes.length))) (h5:¬ (c.op = 3∧(c.lo < -1000000∨c.hi > 1000000∨c.lo > c.hi))):ndE s c = 0:=by
 rw [ndE,if_neg h1,if_neg h2,if_neg h3,if_neg h4,if_neg h5]
theorem zn7 (s:Sch):ndE s (.mk 1 0 0 0 0 []) = 0:=zJ4 (by simp [Cnd.op,Cnd.col,Cnd.code,Cnd.lo,Cnd.hi,Cnd.kids]) (by simp [arC,Cnd.op,Cnd.col,Cnd.code,Cnd.lo,Cnd.hi,Cnd.kids]) (by simp [Cnd.op,Cnd.col,Cnd.code,Cnd.lo,Cnd.hi,Cnd.kids]) (by simp [Cnd.op,Cnd.col,Cnd.code,Cnd.lo,Cnd.hi,Cnd.kids]) (by simp [Cnd.op,Cnd.col,Cnd.code,Cnd.lo,Cnd.hi,Cnd.kids])
theorem zn8 {s:Sch} {v:Nat} {k:Int} (h:isB s v 2 = true) (h1:0≤k) (h2:k < (qJ s v).codes.length):ndE s (.mk 2 v k 0 0 []) = 0:=
 zJ4 (by simp [Cnd.op,Cnd.col,Cnd.code,Cnd.lo,Cnd.hi,Cnd.kids]) (by simp [arC,Cnd.op,Cnd.col,Cnd.code,Cnd.lo,Cnd.hi,Cnd.kids]) (by simp [Cnd.op,Cnd.col,Cnd.code,Cnd.lo,Cnd.hi,Cnd.kids,h]) (by simp only [Cnd.op,Cnd.col,Cnd.code,Cnd.lo,Cnd.hi,Cnd.kids,Int.toNat_natCast];omega) (by simp [Cnd.op,Cnd.col,Cnd.code,Cnd.lo,Cnd.hi,Cnd.kids])
theorem WA {s:Sch} {v:Nat} {a b:Int} (h:isB s v 3 = true) (h1 : -1000000≤a) (h2:b≤1000000) (h3:a≤b):ndE s (.mk 3 v 0 a b []) = 0:=
 zJ4 (by simp [Cnd.op,Cnd.col,Cnd.code,Cnd.lo,Cnd.hi,Cnd.kids]) (by simp [arC,Cnd.op,Cnd.col,Cnd.code,Cnd.lo,Cnd.hi,Cnd.kids]) (by simp [Cnd.op,Cnd.col,Cnd.code,Cnd.lo,Cnd.hi,Cnd.kids,h]) (by simp [Cnd.op,Cnd.col,Cnd.code,Cnd.lo,Cnd.hi,Cnd.kids]) (by simp only [Cnd.op,Cnd.col,Cnd.code,Cnd.lo,Cnd.hi,Cnd.kids];omega)
theorem zJ5 {s:Sch} {v:Nat} (h:isB s v 3 = true) (h1:(qd s v).opt = true):ndE s (.mk 4 v 0 0 0 []) = 0:=
 zJ4 (by simp [Cnd.op,Cnd.col,Cnd.code,Cnd.lo,Cnd.hi,Cnd.kids]) (by simp [arC,Cnd.op,Cnd.col,Cnd.code,Cnd.lo,Cnd.hi,Cnd.kids]) (by simp only [Cnd.op,Cnd.col,Cnd.code,Cnd.lo,Cnd.hi,Cnd.kids,Int.toNat_natCast,h,h1];simp) (by simp [Cnd.op,Cnd.col,Cnd.code,Cnd.lo,Cnd.hi,Cnd.kids]) (by simp [Cnd.op,Cnd.col,Cnd.code,Cnd.lo,Cnd.hi,Cnd.kids])
theorem zJ6 {s:Sch} {op:Int} {ks:List Cnd} (h:op = 5∨op = 6∨op = 7) (hk:ks.length = arC op):ndE s (.mk op 0 0 0 0 ks) = 0:=
 zJ4 (by simp only [Cnd.op,Cnd.col,Cnd.code,Cnd.lo,Cnd.hi,Cnd.kids];omega) (by simp [Cnd.op,Cnd.col,Cnd.code,Cnd.lo,Cnd.hi,Cnd.kids,hk]) (by simp only [Cnd.op,Cnd.col,Cnd.code,Cnd.lo,Cnd.hi,Cnd.kids];omega) (by simp only [Cnd.op,Cnd.col,Cnd.code,Cnd.lo,Cnd.hi,Cnd.kids];omega) (by simp only [Cnd.op,Cnd.col,Cnd.code,Cnd.lo,Cnd.hi,Cnd.kids];omega)
theorem jk5 {s:Sch} {n:Nat} {c:Cnd} (h:CndOk s n c):CndOk s (n + 1) (.mk 7 0 0 0 0 [c]):=by
 have h1:=h.dep
 have h2:=h.siz
 have h3:2 ^ (n + 1 + 1) = 2 * 2 ^ (n + 1):=by rw [Nat.pow_succ];omega
 refine ⟨zc9 (zJ6 (.inr (.inr rfl)) rfl) ?_,?_,?_⟩
 ·show Qq s [c] = 0
  rw [Qq,if_neg (by rw [h.ok];simp),Qq]
 ·rw [qw6];show wt [c] + 1≤_
  rw [wt,wt];omega
 ·rw [qL4];show qe5 [c] + 1 + 1≤_
  rw [qe5,qe5];omega
theorem zZ5 {s:Sch} {n:Nat} {c d:Cnd} {op:Int} (ho:op = 5∨op = 6) (h:CndOk s n c) (g:CndOk s n d):CndOk s (n + 1) (.mk op 0 0 0 0 [c,d]):=by
 have h1:=h.dep
 have h2:=h.siz
 have g1:=g.dep
 have g2:=g.siz
 have h3:2 ^ (n + 1 + 1) = 2 * 2 ^ (n + 1):=by rw [Nat.pow_succ];omega
 refine ⟨zc9 (zJ6 (by omega) (by rcases ho with h | h <;> subst h <;> rfl)) ?_,?_,?_⟩
 ·show Qq s [c,d] = 0
  rw [Qq,if_neg (by rw [h.ok];simp),Qq,if_neg (by rw [g.ok];simp),Qq]
 ·rw [qw6];show wt [c,d] + 1≤_
  rw [wt,wt,wt];omega
 ·rw [qL4];show qe5 [c,d] + 1 + 1≤_
  rw [qe5,qe5,qe5];omega
theorem Jn (s:Sch) (hd:DrS s) (l:List UInt8) (hl:l.length≤400):∀ (n:Nat) (a:Nat),a≤l.length→n≤3→
 ∃ r:Cnd×Nat,(CndOk s n r.1∧r.2≤l.length)∧Spc Tryz.prog qW [.ptr 0 1 0 0,schT s,vI n] [(0,oC l a)] (cnT r.1) [(0,oC l r.2)]:=by
 have hE:=hd.ok
 have hok:=qK hE
 have hnc:=hok.nc
 have hat:∀ i (h:i < s.cols.length),qd s i = s.cols[i]:=fun i h=>by rw [qd,qj h]
 have hnl:=hd.nl
 intro n
 induction n with
 | zero=>
   intro a ha _
   refine jr Zt mixm (fun r:Cnd×Nat=>cnT r.1) (fun r=>[(0,oC l r.2)]) (by simp) ?_
   unfold jR
   have hz:decide (((0:Nat):Int) > 0) = false:=rfl
   simp only [tZ,↓un_u,simprocAttr,hz]
   obtain ⟨b,hb2⟩:∃ b,b = a:=⟨_,rfl⟩
   rw [← hb2]
   have hb:b≤l.length:=by omega
   obtain ⟨j2,b2,u1,u2,hb2,sN2⟩:=Zi l b 5 hl hb (by omega)
   refine XE.mp (fun _ _=>C1.draw 0 l b _ sN2 rfl rfl rfl) ?_
   simp only [tZ,↓un_u,simprocAttr,beq_iff_eq,beq_eq_false_iff_ne]
   refine XE.brN (fun h1=>?_) (fun h1=>?_)
   ·obtain ⟨v,b3,hv,hb3,sV⟩:=zJ3 s hd l b2 hl hb2
    obtain ⟨_,v2,v3⟩:=zA.1 hv
    rw [Int.toNat_natCast] at v3
    have hil:v < s.cols.length:=by omega
    obtain ⟨d1,d2⟩:=hok.cdl hil v3
    obtain ⟨d3,d4⟩:=(qZ (hok.cs v hil)).2.2.2.1 v3
    have hcl:qJ s v = s.lists.getD s.cols[v].list.toNat default:=by rw [qJ,hat v hil]
    have hnd:=fun k=>zn8 (k:=k) hv
    rw [hat v hil] at d1 d3 d4
    rw [hcl,qj d1] at d2 hnd
    obtain ⟨_,d5,d6⟩:=ze d2
    obtain ⟨w,b4,w1,w2,hb4,sQ⟩:=Zi l b3 s.lists[s.cols[v].list.toNat].codes.length hl hb3 (by omega)
    refine XE.mp (fun _ _=>C1.draw 0 l b2 _ sV rfl rfl rfl) ?_
    simp only [tZ,↓un_u,simprocAttr,Int.toNat_natCast,qg hil,qg d1]
    refine XE.sd (by omega) (XE.sd (by omega) ?_)
    refine XE.mp (fun _ _=>C1.draw 0 l b3 _ sQ rfl rfl rfl) ?_
    refine sW ?_
    refine XE.sd (by kernel_rfl) ?_
    refine XE.fin (.mk 2 v w 0 0 [],b4) ⟨Qr _ (hnd w w1 w2) rfl,hb4⟩ fun e ⟨_,hst⟩=>?_
    exact .oA [(0,some 0)] []
   ·refine XE.brN (fun h2=>?_) (fun h2=>?_)
    ·refine XE.brN (fun _=>?_) (fun k=>absurd h2 k)
     obtain ⟨v,b3,hv,hb3,sV⟩:=yF s hd l b2 hl hb2
     obtain ⟨_,v2,v3⟩:=zA.1 hv
     rw [Int.toNat_natCast] at v3
     have hil:v < s.cols.length:=by omega
     obtain ⟨_,hM⟩:=hd.col hil v3
     have hlo:=hM.low
     rw [hat v hil] at hlo
     obtain ⟨w,b4,w1,w2,hb4,sQ⟩:=qL3 l b3 (-3) 40 hl hb3 (by omega) (by omega)
     obtain ⟨z,b5,z1,z2,hb5,sZ⟩:=Zi l b4 30 hl hb4 (by omega)
     have hw1:IntKind.i64.wrap (s.cols[v].low + w) = s.cols[v].low + w:=IntWalk.i64_in _ (by omega)
     have hw2:IntKind.i64.wrap (s.cols[v].low + w + z) = s.cols[v].low + w + z:=IntWalk.i64_in _ (by omega)
     refine XE.mp (fun _ _=>C1.draw 0 l b2 _ sV rfl rfl rfl) ?_
     simp only [tZ,↓un_u,simprocAttr,Int.toNat_natCast,qg hil]
     refine XE.sd (by omega) ?_
     refine XE.mp (fun _ _=>C1.draw 0 l b3 _ sQ rfl rfl rfl) ?_
     simp only [tZ,↓un_u,simprocAttr,hw1]
     refine XE.sd (by kernel_rfl) ?_
     refine XE.mp (fun _ _=>C1.draw 0 l b4 _ sZ rfl rfl rfl) ?_
     simp only [tZ,↓un_u,simprocAttr,hw2]
     refine XE.fin (.mk 3 v 0 (s.cols[v].low + w) (s.cols[v].low + w + z) [],b5) ⟨Qr _ (WA hv (by omega) (by omega) (by omega)) rfl,hb5⟩ fun e ⟨_,hst⟩=>?_
     exact .oA [(0,some 0)] []
    ·refine XE.brN (fun h3=>?_) (fun h3=>?_)
     ·obtain ⟨v,b3,hv,hb3,sV⟩:=yF s hd l b2 hl hb2
      obtain ⟨_,v2,v3⟩:=zA.1 hv
      rw [Int.toNat_natCast] at v3
      have hil:v < s.cols.length:=by omega
      obtain ⟨_,hM⟩:=hd.col hil v3
      have hlo:=hM.low
      rw [hat v hil] at hlo
      obtain ⟨w,b4,w1,w2,hb4,sQ⟩:=qL3 l b3 (-3) 40 hl hb3 (by omega) (by omega)
      obtain ⟨z,b5,z1,z2,hb5,sZ⟩:=Zi l b4 30 hl hb4 (by omega)
      have hw1:IntKind.i64.wrap (s.cols[v].low + w) = s.cols[v].low + w:=IntWalk.i64_in _ (by omega)
      have hw2:IntKind.i64.wrap (s.cols[v].low + w + z) = s.cols[v].low + w + z:=IntWalk.i64_in _ (by omega)
      refine XE.mp (fun _ _=>C1.draw 0 l b2 _ sV rfl rfl rfl) ?_
      simp only [tZ,↓un_u,simprocAttr,Int.toNat_natCast,qg hil]
      refine XE.sd (by omega) ?_
      refine XE.mp (fun _ _=>C1.draw 0 l b3 _ sQ rfl rfl rfl) ?_
      simp only [tZ,↓un_u,simprocAttr,hw1]
      refine XE.sd (by kernel_rfl) ?_
      refine XE.mp (fun _ _=>C1.draw 0 l b4 _ sZ rfl rfl rfl) ?_
      simp only [tZ,↓un_u,simprocAttr,hw2]
      refine XE.fin (.mk 3 v 0 (s.cols[v].low + w) (s.cols[v].low + w + z) [],b5) ⟨Qr _ (WA hv (by omega) (by omega) (by omega)) rfl,hb5⟩ fun e ⟨_,hst⟩=>?_
      exact .oA [(0,some 0)] []
     ·refine XE.brN (fun h4=>?_) (fun h4=>?_)
      ·obtain ⟨v,b3,hv,hb3,sV⟩:=yF s hd l b2 hl hb2
       obtain ⟨_,v2,v3⟩:=zA.1 hv
       rw [Int.toNat_natCast] at v3
       have hil:v < s.cols.length:=by omega
       refine XE.mp (fun _ _=>C1.draw 0 l b2 _ sV rfl rfl rfl) ?_
       simp only [tZ,↓un_u,simprocAttr,Int.toNat_natCast,qg hil]
       refine XE.sd (by omega) ?_
       refine XE.brB (fun h5=>?_) (fun h5=>?_)
       ·refine XE.fin (.mk 4 v 0 0 0 [],b3) ⟨Qr _ (zJ5 hv (by rw [hat v hil];exact h5)) rfl,hb3⟩ fun e ⟨_,hst⟩=>?_
        exact .oA [(0,some 0)] []
       ·refine XE.fin (.mk 1 0 0 0 0 [],b3) ⟨Qr _ (zn7 s) rfl,hb3⟩ fun e ⟨_,hst⟩=>?_
        exact .oA [(0,some 0)] []
      ·refine XE.fin (.mk 1 0 0 0 0 [],b2) ⟨Qr _ (zn7 s) rfl,hb2⟩ fun e ⟨_,hst⟩=>?_
       exact .oA [(0,some 0)] []
 | succ n ih=>
   intro a ha hn
   have hz:decide (((n + 1:Nat):Int) > 0) = true:=decide_eq_true (by omega)
   have hwp:IntKind.i64.wrap (((n + 1:Nat):Int) - 1) = n:=by rw [IntWalk.i64_in _ (by omega)];omega
   obtain ⟨j,b,j1,j2,hb,sN⟩:=Zi l a 5 hl ha (by omega)
   obtain ⟨⟨c1,b1⟩,⟨hc1,hb1⟩,sC1⟩:=ih b hb (by omega)
   dsimp only at hc1 hb1 sC1
   obtain ⟨⟨c2,b2⟩,⟨hc2,hb2⟩,sC2⟩:=ih b1 hb1 (by omega)
   dsimp only at hc2 hb2 sC2
   refine jr Zt mixm (fun r:Cnd×Nat=>cnT r.1) (fun r=>[(0,oC l r.2)]) (by simp) ?_
   unfold jR
   simp only [tZ,↓un_u,simprocAttr,hz]
   refine XE.mp (fun _ _=>C1.draw 0 l a _ sN rfl rfl rfl) ?_
   simp only [tZ,↓un_u,simprocAttr,hwp,beq_iff_eq,beq_eq_false_iff_ne]
   refine XE.brN (fun h2=>?_) (fun h2=>XE.brN (fun h3=>?_) (fun h3=>XE.brN (fun h4=>?_) (fun h4=>?_)))
   ·refine XE.mp (fun _ _=>C1.draw 0 l b _ sC1 rfl rfl rfl) ?_
    refine sW ?_
    refine XE.fin (.mk 7 0 0 0 0 [c1],b1) ⟨jk5 hc1,hb1⟩ fun e ⟨_,hst⟩=>?_
    show QL _ _ _ (.agg [vI 7,vI 0,vI 0,vI 0,vI 0,.sl 6 [cndT c1]]) _
    rw [jP]
    exact .oA [(0,some 0)] [20500]
   ·refine XE.mp (fun _ _=>C1.draw 0 l b _ sC1 rfl rfl rfl) ?_
    simp only [tZ,↓un_u,simprocAttr,hwp]
    refine XE.mp (fun _ _=>C1.draw 0 l b1 _ sC2 rfl rfl rfl) ?_
    refine sW ?_
    refine XE.sd (by kernel_rfl) ?_
    refine XE.fin (.mk 5 0 0 0 0 [c1,c2],b2) ⟨zZ5 (by omega) hc1 hc2,hb2⟩ fun e ⟨_,hst⟩=>?_
    show QL _ _ _ (.agg [vI 5,vI 0,vI 0,vI 0,vI 0,.sl 6 [cndT c1,cndT c2]]) _
    rw [jP,jP]
    exact .oA [(0,some 0)] [28712]
   ·refine XE.mp (fun _ _=>C1.draw 0 l b _ sC1 rfl rfl rfl) ?_
    simp only [tZ,↓un_u,simprocAttr,hwp]
    refine XE.mp (fun _ _=>C1.draw 0 l b1 _ sC2 rfl rfl rfl) ?_
    refine sW ?_
    refine XE.sd (by kernel_rfl) ?_
    refine XE.fin (.mk 6 0 0 0 0 [c1,c2],b2) ⟨zZ5 (by omega) hc1 hc2,hb2⟩ fun e ⟨_,hst⟩=>?_
    show QL _ _ _ (.agg [vI 6,vI 0,vI 0,vI 0,vI 0,.sl 6 [cndT c1,cndT c2]]) _
    rw [jP,jP]
    exact .oA [(0,some 0)] [36904]
   ·obtain ⟨j2,b2,u1,u2,hb2,sN2⟩:=Zi l b 5 hl hb (by omega)
    refine XE.mp (fun _ _=>C1.draw 0 l b _ sN2 rfl rfl rfl) ?_
    simp only [tZ,↓un_u,simprocAttr,beq_iff_eq,beq_eq_false_iff_ne]
    refine XE.brN (fun h1=>?_) (fun h1=>?_)
    ·obtain ⟨v,b3,hv,hb3,sV⟩:=zJ3 s hd l b2 hl hb2
     obtain ⟨_,v2,v3⟩:=zA.1 hv
     rw [Int.toNat_natCast] at v3
     have hil:v < s.cols.length:=by omega
     obtain ⟨d1,d2⟩:=hok.cdl hil v3
     obtain ⟨d3,d4⟩:=(qZ (hok.cs v hil)).2.2.2.1 v3
     have hcl:qJ s v = s.lists.getD s.cols[v].list.toNat default:=by rw [qJ,hat v hil]
     have hnd:=fun k=>zn8 (k:=k) hv
     rw [hat v hil] at d1 d3 d4
     rw [hcl,qj d1] at d2 hnd
     obtain ⟨_,d5,d6⟩:=ze d2
     obtain ⟨w,b4,w1,w2,hb4,sQ⟩:=Zi l b3 s.lists[s.cols[v].list.toNat].codes.length hl hb3 (by omega)
     refine XE.mp (fun _ _=>C1.draw 0 l b2 _ sV rfl rfl rfl) ?_
     simp only [tZ,↓un_u,simprocAttr,Int.toNat_natCast,qg hil,qg d1]
     refine XE.sd (by omega) (XE.sd (by omega) ?_)
     refine XE.mp (fun _ _=>C1.draw 0 l b3 _ sQ rfl rfl rfl) ?_
     refine sW ?_
     refine XE.sd (by kernel_rfl) ?_
     refine XE.fin (.mk 2 v w 0 0 [],b4) ⟨Qr _ (hnd w w1 w2) rfl,hb4⟩ fun e ⟨_,hst⟩=>?_
     exact .oA [(0,some 0)] []
    ·refine XE.brN (fun h2=>?_) (fun h2=>?_)
     ·refine XE.brN (fun _=>?_) (fun k=>absurd h2 k)
      obtain ⟨v,b3,hv,hb3,sV⟩:=yF s hd l b2 hl hb2
      obtain ⟨_,v2,v3⟩:=zA.1 hv
      rw [Int.toNat_natCast] at v3
      have hil:v < s.cols.length:=by omega
      obtain ⟨_,hM⟩:=hd.col hil v3
      have hlo:=hM.low
      rw [hat v hil] at hlo
      obtain ⟨w,b4,w1,w2,hb4,sQ⟩:=qL3 l b3 (-3) 40 hl hb3 (by omega) (by omega)
      obtain ⟨z,b5,z1,z2,hb5,sZ⟩:=Zi l b4 30 hl hb4 (by omega)
      have hw1:IntKind.i64.wrap (s.cols[v].low + w) = s.cols[v].low + w:=IntWalk.i64_in _ (by omega)
      have hw2:IntKind.i64.wrap (s.cols[v].low + w + z) = s.cols[v].low + w + z:=IntWalk.i64_in _ (by omega)
      refine XE.mp (fun _ _=>C1.draw 0 l b2 _ sV rfl rfl rfl) ?_
      simp only [tZ,↓un_u,simprocAttr,Int.toNat_natCast,qg hil]
      refine XE.sd (by omega) ?_
      refine XE.mp (fun _ _=>C1.draw 0 l b3 _ sQ rfl rfl rfl) ?_
      simp only [tZ,↓un_u,simprocAttr,hw1]
      refine XE.sd (by kernel_rfl) ?_
      refine XE.mp (fun _ _=>C1.draw 0 l b4 _ sZ rfl rfl rfl) ?_
      simp only [tZ,↓un_u,simprocAttr,hw2]
      refine XE.fin (.mk 3 v 0 (s.cols[v].low + w) (s.cols[v].low + w + z) [],b5) ⟨Qr _ (WA hv (by omega) (by omega) (by omega)) rfl,hb5⟩ fun e ⟨_,hst⟩=>?_
      exact .oA [(0,some 0)] []
     ·refine XE.brN (fun h3=>?_) (fun h3=>?_)
      ·obtain ⟨v,b3,hv,hb3,sV⟩:=yF s hd l b2 hl hb2
       obtain ⟨_,v2,v3⟩:=zA.1 hv
       rw [Int.toNat_natCast] at v3
       have hil:v < s.cols.length:=by omega
       obtain ⟨_,hM⟩:=hd.col hil v3
       have hlo:=hM.low
       rw [hat v hil] at hlo
       obtain ⟨w,b4,w1,w2,hb4,sQ⟩:=qL3 l b3 (-3) 40 hl hb3 (by omega) (by omega)
       obtain ⟨z,b5,z1,z2,hb5,sZ⟩:=Zi l b4 30 hl hb4 (by omega)
       have hw1:IntKind.i64.wrap (s.cols[v].low + w) = s.cols[v].low + w:=IntWalk.i64_in _ (by omega)
       have hw2:IntKind.i64.wrap (s.cols[v].low + w + z) = s.cols[v].low + w + z:=IntWalk.i64_in _ (by omega)
       refine XE.mp (fun _ _=>C1.draw 0 l b2 _ sV rfl rfl rfl) ?_
       simp only [tZ,↓un_u,simprocAttr,Int.toNat_natCast,qg hil]
       refine XE.sd (by omega) ?_
       refine XE.mp (fun _ _=>C1.draw 0 l b3 _ sQ rfl rfl rfl) ?_
       simp only [tZ,↓un_u,simprocAttr,hw1]
       refine XE.sd (by kernel_rfl) ?_
       refine XE.mp (fun _ _=>C1.draw 0 l b4 _ sZ rfl rfl rfl) ?_
       simp only [tZ,↓un_u,simprocAttr,hw2]
       refine XE.fin (.mk 3 v 0 (s.cols[v].low + w) (s.cols[v].low + w + z) [],b5) ⟨Qr _ (WA hv (by omega) (by omega) (by omega)) rfl,hb5⟩ fun e ⟨_,hst⟩=>?_
       exact .oA [(0,some 0)] []
      ·refine XE.brN (fun h4=>?_) (fun h4=>?_)
       ·obtain ⟨v,b3,hv,hb3,sV⟩:=yF s hd l b2 hl hb2
        obtain ⟨_,v2,v3⟩:=zA.1 hv
        rw [Int.toNat_natCast] at v3
        have hil:v < s.cols.length:=by omega
        refine XE.mp (fun _ _=>C1.draw 0 l b2 _ sV rfl rfl rfl) ?_
        simp only [tZ,↓un_u,simprocAttr,Int.toNat_natCast,qg hil]
        refine XE.sd (by omega) ?_
        refine XE.brB (fun h5=>?_) (fun h5=>?_)
        ·refine XE.fin (.mk 4 v 0 0 0 [],b3) ⟨Qr _ (zJ5 hv (by rw [hat v hil];exact h5)) rfl,hb3⟩ fun e ⟨_,hst⟩=>?_
         exact .oA [(0,some 0)] []
        ·refine XE.fin (.mk 1 0 0 0 0 [],b3) ⟨Qr _ (zn7 s) rfl,hb3⟩ fun e ⟨_,hst⟩=>?_
         exact .oA [(0,some 0)] []
       ·refine XE.fin (.mk 1 0 0 0 0 [],b2) ⟨Qr _ (zn7 s) rfl,hb2⟩ fun e ⟨_,hst⟩=>?_
        exact .oA [(0,some 0)] []
end Go.Proofs
namespace Go.Proofs
open Go Go.TL
set_option maxRecDepth 4000
set_option maxHeartbeats 8000000
theorem qx3 (s:Sch) (kind:Int):(ZT s kind).Nodup:=by
 unfold ZT JY
 show List.Pairwise (·≠·) _
 rw [List.pairwise_map]
 exact ((List.nodup_range).filter _).imp fun h e=>h (by omega)
theorem DrS.code2 {s:Sch} (h:DrS s):(ZT s 2).length≤2:=by
 obtain ⟨ms,hc,h1,h3⟩:=h.cs
 have key:∀ (pre:List Col) (n:Nat),s.cols = pre ++ ms→(∀ j (hj:j < ms.length),DrM (n + j) ms[j])→(ZT s 2).length = (JY s 2 pre.length).length:=by
  intro pre n he hm
  unfold ZT
  have k2:∀ m,pre.length + m≤s.cols.length→(JY s 2 (pre.length + m)).length = (JY s 2 pre.length).length:=by
   intro m
   induction m with
   | zero=>intro _;rfl
   | succ m ih=>
     intro hle
     have hl:m < ms.length:=by rw [he,List.length_append] at hle;omega
     have hk:(qd s (pre.length + m)).kind = 3:=by
      rw [qd,he,List.getD_eq_getElem?_getD,List.getElem?_append_right (by omega),Nat.add_sub_cancel_left,List.getElem?_eq_getElem hl]
      exact (hm m hl).kind
     rw [← Nat.add_assoc,jI,if_neg (by rw [hk];decide),List.append_nil]
     exact ih (by omega)
  have:=k2 ms.length (by rw [he,List.length_append];omega)
  rw [← List.length_append,← he] at this
  exact this
 rcases hc with ⟨hc,hm⟩ | ⟨hc,hm⟩
 ·rw [key [whoC,sexC] 2 (by rw [hc];rfl) hm]
  have:=jI s 2 1
  have h0:=jI s 2 0
  have e0:(qd s 0).kind = 1:=by rw [qd,hc];rfl
  rw [e0] at h0
  show (JY s 2 (1 + 1)).length≤2
  have:=qe4 s 2 2
  omega
 ·rw [key [whoC,sexC,jobC] 3 (by rw [hc];rfl) hm]
  have h2:=jI s 2 2
  have h1:=jI s 2 1
  have h0:=jI s 2 0
  have e0:(qd s 0).kind = 1:=by rw [qd,hc];rfl
  have e1:(qd s 1).kind = 2:=by rw [qd,hc];rfl
  have e2:(qd s 2).kind = 2:=by rw [qd,hc];rfl
  rw [e0,if_neg (by decide)] at h0
  rw [e1,if_pos rfl] at h1
  rw [e2,if_pos rfl] at h2
  show (JY s 2 (2 + 1)).length≤2
  rw [h2,h1,h0]
  simp [JY]
structure DimOk (s:Sch) (L:List Int) (l:List Pk):Prop where
 cols:l.map (·.col) = L
 pick:∀ p∈l,Kw s p = 0
theorem DimOk.dims {s:Sch} {L:List Int} {l:List Pk} (h:DimOk s L l) (h1:1≤L.length) (h2:L.length≤3) (hn:L.Nodup) (hc:∀ v∈L,isB s v 2 = true):ZS s l = 0:=by
 have hl:l.length = L.length:=by rw [← h.cols,List.length_map]
 rw [ZS,if_neg (by omega)]
 refine qw8 fun i hi=>?_
 have hpi:pkAt l i = l[i]:=by rw [pkAt,qj hi]
 have hm:l[i]∈l:=List.getElem_mem hi
 rw [dimE,hpi,if_neg (by rw [h.pick _ hm];simp),if_neg (by rw [hc _ (by rw [← h.cols];exact List.mem_map_of_mem hm)];simp),if_neg]
 intro k
 obtain ⟨x,hx,e⟩:=List.any_eq_true.1 k
 obtain ⟨j,hj,rfl⟩:=List.mem_take_iff_getElem.1 hx
 rw [← h.cols] at hn
 have:=List.pairwise_iff_getElem.1 hn j i (by simp;omega) (by simp;omega) (by omega)
 simp only [List.getElem_map] at this
 exact this (beq_iff_eq.1 e)
theorem zJ7 {s:Sch} (hE:schE s = 0) {v:Nat} (h:isB s v 2 = true∨isB s v 3 = true):1≤v∧v < s.cols.length∧0≤finI s v∧finI s v≤59:=by
 have hok:=qK hE
 have hb:∃ k,2≤k∧isB s v k = true:=by rcases h with h | h <;> exact ⟨_,by omega,h⟩
 obtain ⟨k,hk,hb⟩:=hb
 obtain ⟨_,b2,b3⟩:=zA.1 hb
 rw [Int.toNat_natCast] at b3
 have hv:v≠0:=fun e=>by subst e;have:=hok.c0;omega
 refine ⟨by omega,by omega,?_,YM hE⟩
 rw [finI,if_neg (by omega),Int.toNat_natCast]
 split
 ·rename_i h2
  have:=qp0 (hok.cdl (by omega) h2).2
  omega
 ·omega
theorem kz (s:Sch) (hd:DrS s) (l:List UInt8) (a:Nat) (hl:l.length≤400) (ha:a≤l.length) :
 ∃ r:List Pk×Nat,(ZS s r.1 = 0∧r.2≤l.length)∧Spc Tryz.prog ym [.ptr 0 1 0 0,schT s] [(0,oC l a)] (vPs r.1) [(0,oC l r.2)]:=by
 have hE:=hd.ok
 have hok:=qK hE
 have hnc:=hok.nc
 have hc:=yP s 2 (by omega)
 have hm:=fun v=>(Zj (s:=s) (kind:=2) (v:=v)).1
 have hnd:=qx3 s 2
 have hc2:=hd.code2
 obtain ⟨k1,k2⟩:=hd.code
 generalize ZT s 2 = L at hc hm hnd hc2 k1 k2
 obtain ⟨o,a1,ha1,sO⟩:=je5 l a 2 hl ha (by omega)
 obtain ⟨j,a2,j1,j2,ha2,sN⟩:=Zi l a1 L.length hl ha1 (by omega)
 obtain ⟨m,rfl⟩:=Int.eq_ofNat_of_zero_le j1
 refine jr qc2 mixm (fun r:List Pk×Nat=>vPs r.1) (fun r=>[(0,oC l r.2)]) (by simp) ?_
 unfold wS
 refine sW ?_
 refine XE.mp (fun _ _=>C1.im hc (by rfl) (by rfl)) ?_
 refine sW ?_
 refine XE.mp (fun _ _=>C1.draw 0 l a _ sO rfl rfl rfl) ?_
 refine sW ?_
 refine XE.brB (fun ho=>?_) (fun ho=>?_)
 focus
  refine XE.mp (fun _ _=>C1.draw 0 l a1 _ sN rfl rfl rfl) ?_
  simp only [tZ,↓un_u,simprocAttr,qg9,zQ5]
  have hmd:∀ v∈L.drop m,isB s v 2 = true:=fun v hv=>hm v (List.mem_of_mem_drop hv)
  have hnd2:(L.drop m).Nodup:=hnd.sublist (List.drop_sublist m L)
  have hl2:1≤(L.drop m).length∧(L.drop m).length≤2:=by rw [List.length_drop];omega
  generalize L.drop m = M at hmd hnd2 hl2 ⊢
  obtain ⟨b,hb⟩:∃ b,b = a2:=⟨_,rfl⟩
  rw [← hb]
  have hb:b≤l.length:=by omega
  refine XE.sd (by omega) ?_
 rotate_left
 focus
  have hmd:=hm
  have hnd2:=hnd
  have hl2:1≤L.length∧L.length≤2:=by omega
  obtain ⟨M,hM⟩:∃ M,M = L:=⟨_,rfl⟩
  rw [← hM] at hmd hnd2 hl2 ⊢
  obtain ⟨b,hb⟩:∃ b,b = a1:=⟨_,rfl⟩
  rw [← hb]
  have hb:b≤l.length:=by omega
 all_goals (
  refine XE.loopF mixm [5,20] (fun y:List Pk×Nat=>y.1.length≤M.length∧DimOk s (M.take y.1.length) y.1∧y.2≤l.length) (fun y=>[(5,.asl 1 y.1.length),(20,vI y.1.length)]) (fun y=>[(0,oC l y.2),(4096,.arr 2 [schT s] false),(1,.arr 2 (y.1.map pkT) false)]) (fun y=>M.length - y.1.length) ([],b) ⟨by simp,⟨rfl,by simp⟩,hb⟩ (fun e ⟨_,hst⟩=>?_) fun T' y hy ih=>?_
  ·exact .oA [(0,some 0),(4096,some 4096),(1,none)] []
  obtain ⟨ps,a4⟩:=y
  obtain ⟨y1,y2,y3⟩:=hy
  dsimp only at y1 y2 y3
  simp only [tZ,↓un_u,simprocAttr,decide_eq_true_eq,decide_eq_false_iff_not]
  refine XE.brN (fun h4=>?_) (fun h4=>?_)
  ·have hi2:ps.length < M.length:=by omega
   have hwi:=qr (i:=ps.length) (by omega)
   have hiB:=hmd _ (List.getElem_mem hi2)
   have htk:=qX hi2
   obtain ⟨v,hv⟩:=Int.eq_ofNat_of_zero_le (zA.1 hiB).1
   have hgv:(M.map vI).getD ps.length .junk = vI v:=by rw [qg hi2,hv]
   rw [hv] at hiB htk
   obtain ⟨f1,f2,f3,f4⟩:=zJ7 hE (.inl hiB)
   have hFin:=Yc s hok.sm v
   obtain ⟨w,a5,w1,w2,hw,sQ⟩:=Zi l a4 (finI s v + 1) hl y3 (by omega)
   have hwf:IntKind.i64.wrap (finI s v + 1) = finI s v + 1:=IntWalk.i64_in _ (by omega)
   simp only [tZ,↓un_u,simprocAttr,Int.toNat_natCast,hgv]
   refine XE.sd (by omega) (XE.sd (by omega) ?_)
   refine XE.mp (fun _ _=>C1.im hFin (by rfl) (by rfl)) ?_
   simp only [tZ,↓un_u,simprocAttr,hwf]
   refine XE.mp (fun _ _=>C1.draw 0 l a4 _ sQ rfl rfl rfl) ?_
   simp only [tZ,↓un_u,simprocAttr,hwi]
   refine XE.sd (by omega) (XE.sd (by kernel_rfl) ?_)
   refine XE.next ih (ps ++ [⟨v,w⟩],a5) ⟨by simp;omega,⟨?_,fun p hp=>?_⟩,hw⟩ (by simp;omega) fun e ⟨_,hst⟩=>?_
   ·dsimp only
    rw [List.length_append,List.map_append,y2.cols]
    exact htk.symm
   ·rcases List.mem_append.1 hp with hp | hp
    ·exact y2.pick p hp
    ·rw [List.mem_singleton.1 hp,Kw,if_neg (by rw [hE];simp),if_neg (by dsimp only;omega),if_neg]
     rw [Bool.not_eq_false,ye]
     dsimp only;omega
   ·exact .oA [(0,some 0),(4096,some 4096),(1,some 1)] []
  ·have hil:ps.length = M.length:=by omega
   rw [hil,List.take_length] at y2
   refine XE.fin (ps,a4) ⟨y2.dims hl2.1 (by omega) hnd2 hmd,y3⟩ fun e ⟨_,hst⟩=>?_
   exact .oA [(0,some 0)] [1]
  )
end Go.Proofs
namespace Go.Proofs
open Go Go.TL
theorem Zu (s:ByteArray):Spc Tryz.prog ww [vS s] [] (vB (kf s)) []:=by
 refine qe qJ7 mixm (by simp) fun e _ hst=>qo ?_
 unfold JP
 refine sW ?_
 refine ⟨fun h=>?_,fun h=>?_,fun h=>?_,fun h=>?_⟩
 ·simp at h
  omega
 ·simp at h
  omega
 ·have:kf s = false:=by unfold kf zc7;rw [h];rfl
  rw [this]
  exact .oA [] []
 have hd:zc7 s = false:=h
 have hs16:s.data.toList.length≤16:=by
  unfold zc7 at hd
  simp only [Bool.or_eq_false_iff,decide_eq_false_iff_not] at hd
  have:s.size = s.data.toList.length:=by rw [Array.length_toList];rfl
  omega
 refine qE mixm (α:=Nat) [26] (fun i=>i≤s.data.toList.length∧((s.data.toList.take i).any qw0 = false)) (fun i=>[(26,vI i)]) (fun i=>[]) (fun i=>s.data.toList.length - i) 0 ⟨by omega,?_⟩ ?_ fun i hi=>?_
 ·rfl
 ·exact .oA [] []
 refine sD ?_
 refine ⟨fun h5=>?_,fun h5=>?_⟩
 ·have hi2:i < s.data.toList.length:=by omega
  have hwi:=qr (i:=i) (by omega)
  simp only [tZ,↓un_u,simprocAttr,Int.toNat_natCast,qg hi2,hwi,yj]
  refine ⟨by omega,fun h6=>?_,fun h6=>?_⟩
  ·have hb:qw0 s.data.toList[i] = true:=h6
   have:kf s = false:=by
    unfold kf
    rw [show s.data.toList.any qw0 = true from List.any_eq_true.2 ⟨_,List.getElem_mem hi2,hb⟩]
    simp
   rw [this]
   exact .oA [] []
  ·have hb:qw0 s.data.toList[i] = false:=h6
   refine ⟨i + 1,⟨by omega,kh hi2 hi.2 hb⟩,by omega,?_⟩
   exact .oA [] []
 ·have h3:=hi.2
  have:i = s.data.toList.length:=by omega
  rw [this,List.take_length] at h3
  have hn:kf s = !(resW.contains s.toList):=by unfold kf;rw [hd,h3];rfl
  rw [hn]
  simp only [resW,List.contains_cons,List.contains_nil]
  repeat' (first | with_reducible apply And.intro | with_reducible intro _)
  all_goals first
   | (exfalso;simp_all;done)
   | (simp only [*,Bool.true_or,Bool.or_true,Bool.false_or,Bool.or_false,Bool.not_true,Bool.not_false];exact .imR rfl rfl)
end Go.Proofs
