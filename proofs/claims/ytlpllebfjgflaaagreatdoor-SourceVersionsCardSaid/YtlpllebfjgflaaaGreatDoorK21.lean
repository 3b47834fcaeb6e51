/- A part of the proof: trees of Go values, short forms, contracts. -/
import Derived.WalkKit
import Derived.Still
import Derived.MapKept
import GoSem.Builtin.Cap
import Derived.Laws.Externs
import GoSem.Extern.SlicesOverlaps
import Derived.Carry
import Derived.ProofKit
import Derived.OpenShut
import Derived.HandedShaped
import Derived.Lay
import Derived.LaidLaws
import Derived.MakeChecks
import Derived.SevenTiedAt
import Derived.Test.YtlpllebfjgflaaaGreatDoorChecked
import Derived.Test.YtlpllebfjgflaaaGreatDoorK20
set_option linter.unusedSimpArgs false
set_option linter.unusedVariables false
namespace Go.Proofs
open Go Go.TL
set_option maxRecDepth 4000
set_option maxHeartbeats 4000000
def d36:ByteArray:=⟨#[48,49,50,51,52,53,54,55,56,57,97,98,99,100,101,102,103,104,105,106,107,108,109,110,111,112,113,114,115,116,117,118,119,120,121,122]⟩
theorem bytes_ext2 {a b:ByteArray} (h:a.data.toList = b.data.toList):a = b:=by
 cases a;cases b
 exact congrArg ByteArray.mk (Array.ext' h)
def dgS (n:Nat):ByteArray:=⟨#[dgt n]⟩
theorem d36_at (n:Nat) (h:n < 10):d36.extract n (n + 1) = dgS n:=by
 have:((List.range 10).all fun n=>(d36.extract n (n + 1)).data.toList == (dgS n).data.toList) = true:=by decide +kernel
 exact bytes_ext2 (eq_of_beq (List.all_eq_true.1 this n (List.mem_range.2 h)))
theorem app_dg (c:UInt8) (n:Nat):(⟨#[c]⟩:ByteArray) ++ dgS n = ⟨#[c,dgt n]⟩:=by
 apply bytes_ext2
 rw [ByteArray.toList_data_append]
 rfl
theorem c_small (n:Nat) (h:n < 10):Spc Tryz.prog F_internal_strconv_small [vI n] [] (vS (dgS n)) []:=by
 have h1:=i64_succ (i:=n) (by omega)
 have z1:d36.size = 36:=rfl
 refine spec_of_ir fn_internal_strconv_small mixm (by simp) fun e _ hst=>W_start ?_
 unfold ir_internal_strconv_small
 simp only [tZ,↓un_u,simprocAttr,tD,h1,Int.toNat_natCast]
 refine ⟨fun h2=>?_,fun h2=>by omega⟩
 refine ⟨?_,?_⟩
 ·show (0≤(n:Int)∧(n:Int)≤((n + 1:Nat):Int)∧((n + 1:Nat):Int)≤(d36.size:Int))
  omega
 ·show EndOk [] (vS (d36.extract n (n + 1))) [] (vS (dgS n)) []
  rw [d36_at n (by omega)]
  exact .oA [] []
theorem c_Itoa (n:Nat) (h:n < 10):Spc Tryz.prog F_strconv_Itoa [vI n] [] (vS (dgS n)) []:=by
 have h1:Spc Tryz.prog F_internal_strconv_FormatInt [vI n,vI 10] [] (vS (dgS n)) []:=by
  have e1:decide (0≤(n:Int)) = true:=decide_eq_true (by omega)
  have e2:decide ((n:Int) < 100) = true:=decide_eq_true (by omega)
  refine spec_of_ir fn_internal_strconv_FormatInt mixm (by simp) fun e _ hst=>W_start ?_
  unfold ir_internal_strconv_FormatInt
  simp only [tZ,↓un_u,simprocAttr,beq_self_eq_true,e1,e2,Bool.true_and]
  refine C1.im (c_small n h) (by rfl) (by rfl) ?_
  refine sW ?_
  exact .oA [] []
 have h2:Spc Tryz.prog F_internal_strconv_Itoa [vI n] [] (vS (dgS n)) []:=by
  refine spec_of_ir fn_internal_strconv_Itoa mixm (by simp) fun e _ hst=>W_start ?_
  unfold ir_internal_strconv_Itoa
  refine sW ?_
  refine C1.im h1 (by rfl) (by rfl) ?_
  refine sW ?_
  exact .oA [] []
 refine spec_of_ir fn_strconv_Itoa mixm (by simp) fun e _ hst=>W_start ?_
 unfold ir_strconv_Itoa
 refine sW ?_
 refine C1.im h2 (by rfl) (by rfl) ?_
 refine sW ?_
 exact .oA [] []
def oneB (l:List UInt8) (a:Nat) (n:Int):Bool:=(nx l a n).1 == n - 1
theorem c_draw_Codes_One (l:List UInt8) (a:Nat) (n:Int) (hl:l.length≤400) (ha:a≤l.length) (hn:0≤n∧n≤1000000):Spc Tryz.prog F_draw_Codes_One [.ptr 0 1 0 0,vI n] [(0,oC l a)] (vB (oneB l a n)) [(0,oC l (nx l a n).2)]:=by
 have hw:IntKind.i64.wrap (n - 1) = n - 1:=IntWalk.i64_in _ (by omega)
 refine spec_of_ir fn_draw_Codes_One mixm (by simp) fun e _ hst=>W_start ?_
 unfold ir_draw_Codes_One
 refine sW ?_
 refine C1.draw 0 l a _ (c_draw_Codes_Next l a n hl ha hn.2) rfl rfl rfl ?_
 simp only [tZ,↓un_u,simprocAttr,hw]
 rw [show ((nx l a n).1 == n - 1) = oneB l a n from rfl]
 exact .oA [(0,some 0)] []
theorem x_Next (l:List UInt8) (a:Nat) (n:Int) (hl:l.length≤400) (ha:a≤l.length) (hn:1≤n∧n≤1000000) :
 ∃ v b,0≤v∧v < n∧b≤l.length∧Spc Tryz.prog F_draw_Codes_Next [.ptr 0 1 0 0,vI n] [(0,oC l a)] (vI v) [(0,oC l b)]:=
 ⟨_,_,(nx_range l a n hn.1).1,(nx_range l a n hn.1).2,nx_le l a n ha,c_draw_Codes_Next l a n hl ha hn.2⟩
theorem x_Range (l:List UInt8) (a:Nat) (lo hi:Int) (hl:l.length≤400) (ha:a≤l.length) (hlo : -1000000≤lo∧lo≤1000000) (hhi:lo≤hi∧hi≤lo + 100000) :
 ∃ v b,lo≤v∧v≤hi∧b≤l.length∧Spc Tryz.prog F_draw_Codes_Range [.ptr 0 1 0 0,vI lo,vI hi] [(0,oC l a)] (vI v) [(0,oC l b)]:=by
 have r:=nx_range l a (hi - lo + 1) (by omega)
 exact ⟨_,_,by omega,by omega,nx_le l a (hi - lo + 1) ha,c_draw_Codes_Range l a lo hi hl ha hlo hhi⟩
theorem x_One (l:List UInt8) (a:Nat) (n:Int) (hl:l.length≤400) (ha:a≤l.length) (hn:0≤n∧n≤1000000) :
 ∃ o b,b≤l.length∧Spc Tryz.prog F_draw_Codes_One [.ptr 0 1 0 0,vI n] [(0,oC l a)] (vB o) [(0,oC l b)]:=
 ⟨_,_,nx_le l a n ha,c_draw_Codes_One l a n hl ha hn⟩
theorem wTab_at (m:Nat) (h:m < 4):wTab.getD m []∈wTab:=by rw [getD_get (by exact h)];exact List.getElem_mem _
theorem c_draw_Codes_Measure (n:Nat) (l:List UInt8) (a:Nat) (hl:l.length≤400) (ha:a≤l.length) :
 ∃ r:Col×Nat,(DrM n r.1∧r.2≤l.length)∧Spc Tryz.prog F_draw_Codes_Measure [.ptr 0 1 0 0,vS ⟨#[109,dgt n]⟩] [(0,oC l a)] (colT r.1) [(0,oC l r.2)]:=by
 have h1:=c_draw_Codes_Range l a (-4) 2 hl ha (by omega) (by omega)
 have r1:=nx_range l a (2 - -4 + 1) (by omega)
 have b1:=nx_le l a (2 - -4 + 1) ha
 generalize nx l a (2 - -4 + 1) = x1 at h1 r1 b1
 have h2:=c_draw_Codes_Next l x1.2 4 hl b1 (by omega)
 have r2:=nx_range l x1.2 4 (by omega)
 have b2:=nx_le l x1.2 4 b1
 generalize nx l x1.2 4 = x2 at h2 r2 b2
 have h3:=c_draw_Codes_One l x2.2 3 hl b2 (by omega)
 have b3:=nx_le l x2.2 3 b2
 generalize (nx l x2.2 3).2 = a3 at h3 b3
 generalize oneB l x2.2 3 = o at h3
 have h4:=c_draw_Codes_Next l a3 45 hl b3 (by omega)
 have r4:=nx_range l a3 45 (by omega)
 have b4:=nx_le l a3 45 b3
 generalize nx l a3 45 = x4 at h4 r4 b4
 refine ⟨(⟨⟨#[109,dgt n]⟩,3,0,-4 + x1.1,-4 + x1.1 + x4.1,wTab.getD x2.1.toNat [],o⟩,x4.2),⟨⟨rfl,rfl,rfl,by dsimp only;omega,by dsimp only;omega,wTab_at _ (by omega)⟩,b4⟩,?_⟩
 obtain ⟨m,hm⟩:=Int.eq_ofNat_of_zero_le r2.1
 have hw:IntKind.i64.wrap (-4 + x1.1 + x4.1) = -4 + x1.1 + x4.1:=IntWalk.i64_in _ (by omega)
 refine spec_of_ir fn_draw_Codes_Measure mixm (by simp) fun e _ hst=>W_start ?_
 unfold ir_draw_Codes_Measure
 refine sW ?_
 refine C1.draw 0 l a _ h1 rfl rfl rfl ?_
 refine sW ?_
 refine C1.draw 0 l x1.2 _ h2 rfl rfl rfl ?_
 rw [hm] at r2 ⊢
 rw [Int.toNat_natCast]
 have hm4:m = 0∨m = 1∨m = 2∨m = 3:=by omega
 have k0:wTab.getD 0 [] = [1]:=rfl
 have k1:wTab.getD 1 [] = [1,5]:=rfl
 have k2:wTab.getD 2 [] = [1,5,20]:=rfl
 have k3:wTab.getD 3 [] = [1,2,4,12]:=rfl
 rcases hm4 with e | e | e | e
 all_goals (
  subst e
  simp only [tZ,↓un_u,simprocAttr,Int.toNat_natCast,k0,k1,k2,k3]
  repeat (refine ⟨by omega,?_⟩)
  refine C1.draw 0 l x2.2 _ h3 rfl rfl rfl ?_
  refine sW ?_
  refine ⟨by kernel_rfl,?_⟩
  refine C1.draw 0 l a3 _ h4 rfl rfl rfl ?_
  simp only [tZ,↓un_u,simprocAttr,hw]
  refine ⟨by kernel_rfl,?_⟩
  )
 ·exact .oA [(0,some 0)] [8204]
 ·exact .oA [(0,some 0)] [8208]
 ·exact .oA [(0,some 0)] [8212]
 ·exact .oA [(0,some 0)] [8216]
def addN (i:Nat):Nat→List Cod→List Cod
 | 0,cs=>cs
 | k + 1,cs=>addN i k (addL cs i)
theorem addN_fold (i:Nat):∀ (k:Nat) (cs:List Cod),(List.range k).foldl (fun cs _=>addL cs i) cs = addN i k cs:=by
 have key:∀ (m:List Nat) (cs:List Cod),m.foldl (fun cs _=>addL cs i) cs = addN i m.length cs:=by
  intro m
  induction m with
  | nil=>intro cs;rfl
  | cons x m ih=>intro cs;rw [List.foldl_cons,ih];rfl
 intro k cs
 rw [key,List.length_range]
theorem lefL_snoc:∀ (ns:List Nat) (cs:List Cod) (i n:Nat),lefL cs i (ns ++ [n]) = addN (i + ns.length) n (lefL cs i ns)
 | [],cs,i,n=>by rw [List.nil_append,lefL,lefL,addN_fold];rfl
 | x :: r,cs,i,n=>by rw [List.cons_append,lefL,lefL,lefL_snoc r _ (i + 1) n,List.length_cons,show i + 1 + r.length = i + (r.length + 1) by omega]
theorem addN_len (i:Nat):∀ (k:Nat) (cs:List Cod),(addN i k cs).length = cs.length + k
 | 0,cs=>rfl
 | k + 1,cs=>by rw [addN,addN_len i k,addL,List.length_append];simp;omega
theorem lefL_len:∀ (ns:List Nat) (cs:List Cod) (i:Nat),(∀ x∈ns,x = 1∨x = 2)→cs.length + ns.length≤(lefL cs i ns).length∧(lefL cs i ns).length≤cs.length + 2 * ns.length
 | [],cs,i,_=>by rw [lefL];simp
 | x :: r,cs,i,h=>by
   have h1:=lefL_len r ((List.range x).foldl (fun cs _=>addL cs i) cs) (i + 1) fun y hy=>h y (List.mem_cons_of_mem _ hy)
   rw [addN_fold,addN_len] at h1
   rw [lefL,addN_fold,List.length_cons]
   have:=h x (by simp)
   omega
theorem c_draw_Codes_List (nm:ByteArray) (hnm:nm = nmOne∨nm = nmTwo) (l:List UInt8) (a:Nat) (hl:l.length≤400) (ha:a≤l.length) :
 ∃ r:CodL×Nat,(DrL nm r.1∧r.2≤l.length)∧Spc Tryz.prog F_draw_Codes_List [.ptr 0 1 0 0,vS nm] [(0,oC l a)] (cdlT r.1) [(0,oC l r.2)]:=by
 have h1:=c_draw_Codes_Range l a 1 3 hl ha (by omega) (by omega)
 have r1:=nx_range l a (3 - 1 + 1) (by omega)
 have b1:=nx_le l a (3 - 1 + 1) ha
 generalize nx l a (3 - 1 + 1) = x1 at h1 r1 b1
 obtain ⟨K,hK⟩:=Int.eq_ofNat_of_zero_le (show 0≤1 + x1.1 by omega)
 rw [hK] at h1
 have hK3:1≤K∧K≤3:=by omega
 refine spec_of_irX0 fn_draw_Codes_List mixm (fun r:CodL×Nat=>cdlT r.1) (fun r=>[(0,oC l r.2)]) (by simp) ?_
 unfold ir_draw_Codes_List
 refine sW ?_
 refine XE.mp (fun _ _=>C1.draw 0 l a _ h1 rfl rfl rfl) ?_
 refine sW ?_
 have hk0:(kidsL 0).map codT = [.agg [vS ⟨#[116,111,112]⟩,vI (-1)]]:=rfl
 have hkl:∀ i,(kidsL i).length = i + 1:=fun i=>by simp [kidsL]
 have hks:∀ i,kidsL (i + 1) = kidsL i ++ [kidC i]:=fun i=>by rw [kidsL,List.range_succ,List.map_append];rfl
 refine XE.loopF mixm [7] (fun i:Nat=>i≤K) (fun i=>[(7,vI i)]) (fun i=>[(0,oC l x1.2),(4096,.arr 2 [cdlT default] false),(8200,.arr 2 ((kidsL i).map codT) false),(8208,.arr 2 [.agg [vS nm,.asl 8200 (i + 1)]] false)]) (fun i=>K - i) 0 (by omega) (fun e ⟨_,hst⟩=>?_) fun T' i hi ih=>?_
 ·simp only [hk0]
  exact .oA [(0,some 0),(4096,some 4096),(8200,some 8200),(8208,some 8208)] []
 simp only [tZ,↓un_u,simprocAttr,decide_eq_true_eq,decide_eq_false_iff_not]
 refine XE.brN (fun h=>?_) (fun h=>?_)
 ·have hwi:=i64_succ (i:=i) (by omega)
  refine XE.mp (fun _ _=>C1.im (c_Itoa i (by omega)) (by rfl) (by rfl)) ?_
  simp only [tZ,↓un_u,simprocAttr,hwi]
  refine XE.sd (show 1 + 1≤9223372036854775807 by omega) (XE.sd ⟨hkl i,by omega⟩ (XE.sd (hkl i) (XE.sd (by kernel_rfl) ?_)))
  refine XE.next ih (i + 1) (by omega) (by omega) fun e ⟨_,hst⟩=>?_
  rw [app_dg,hks]
  exact .oA [(0,some 0),(4096,some 4096),(8200,some 8200),(8208,some 8208)] []
 ·have hiK:i = K:=by omega
  subst hiK
  have h2:=c_draw_Codes_One l x1.2 2 hl b1 (by omega)
  have b2:=nx_le l x1.2 2 b1
  generalize (nx l x1.2 2).2 = a2 at h2 b2
  generalize oneB l x1.2 2 = o at h2
  refine XE.mp (fun _ _=>C1.draw 0 l x1.2 _ h2 rfl rfl rfl) ?_
  refine sW ?_
  refine XE.brB (fun h3=>?_) (fun h3=>?_)
  ·refine XE.fin (⟨nm,kidsL i⟩,a2) ⟨⟨rfl,(kids_ok hnm hK3).1,by rw [hkl];omega⟩,b2⟩ fun e ⟨_,hst⟩=>?_
   have hkli:=hkl i
   refine ⟨hkl i,?_⟩
   exact .oA [(0,some 0)] [8200]
  ·refine XE.loopF mixm [8] (fun y:List Nat×Nat=>y.1.length≤i∧(∀ x∈y.1,x = 1∨x = 2)∧y.2≤l.length) (fun y=>[(8,vI y.1.length)]) (fun y=>[(0,oC l y.2),(4096,.arr 2 [cdlT default] false),(8200,.arr 2 ((lefL (kidsL i) 0 y.1).map codT) false),(8208,.arr 2 [.agg [vS nm,.asl 8200 (lefL (kidsL i) 0 y.1).length]] false)]) (fun y=>i - y.1.length) ([],a2) ⟨by simp,by simp,b2⟩ (fun e ⟨_,hst⟩=>?_) fun T2 y hy ih2=>?_
   ·have hkli:=hkl i
    simp only [lefL]
    refine .of [(0,some 0),(4096,some 4096),(8200,some 8200),(8208,some 8208)] [] rfl (by first | rfl | (rw [hst];rfl)) ?_ ?_
    all_goals (try simp only [tL,simprocAttr,List.map_append,List.map_cons,List.map_nil,List.cons_append,List.nil_append,hkl])
    all_goals (try (repeat' (first | exact ltXs_nil | (apply ltXs_map;intro _;exact ⟨rfl,rfl⟩) | (apply imXs_map;intro _;exact ⟨rfl,rfl⟩) | with_reducible apply imXs_append | with_reducible refine imXs_cons ⟨rfl,rfl⟩ ?_ | exact imXs_nil | with_reducible apply ltXs_append | with_reducible refine ltXs_cons ⟨rfl,rfl,?_⟩ ?_ | with_reducible apply And.intro | exact ltCs_im rfl | exact ltCs_im (by assumption) | (refine ⟨⟨?_,rfl,?_,rfl,?_⟩,trivial⟩ <;> first | (simp;done) | (apply imXs_map;intro _;exact ⟨rfl,rfl⟩)) | trivial | rfl | (rw [i64_succ (by omega)]) | omega)))
   obtain ⟨ns,a3⟩:=y
   obtain ⟨y1,y2,y3⟩:=hy
   dsimp only at y1 y2 y3
   have hll:=lefL_len ns (kidsL i) 0 y2
   rw [hkl] at hll
   simp only [tZ,↓un_u,simprocAttr,decide_eq_true_eq,decide_eq_false_iff_not]
   refine XE.brN (fun h4=>?_) (fun h4=>?_)
   ·have h5:=c_draw_Codes_Range l a3 1 2 hl y3 (by omega) (by omega)
    have r5:=nx_range l a3 (2 - 1 + 1) (by omega)
    have b5:=nx_le l a3 (2 - 1 + 1) y3
    generalize nx l a3 (2 - 1 + 1) = x5 at h5 r5 b5
    obtain ⟨M,hM⟩:=Int.eq_ofNat_of_zero_le (show 0≤1 + x5.1 by omega)
    rw [hM] at h5
    have hsn:=lefL_snoc ns (kidsL i) 0 M
    rw [Nat.zero_add] at hsn
    refine XE.mp (fun _ _=>C1.draw 0 l a3 _ h5 rfl rfl rfl) ?_
    refine sW ?_
    generalize lefL (kidsL i) 0 ns = cs at hll hsn ⊢
    refine XE.loopF mixm [9] (fun z:Nat×List Cod=>addN ns.length z.1 z.2 = addN ns.length M cs∧z.2.length + z.1 = cs.length + M) (fun z=>[(9,vI z.1)]) (fun z=>[(0,oC l x5.2),(4096,.arr 2 [cdlT default] false),(8200,.arr 2 (z.2.map codT) false),(8208,.arr 2 [.agg [vS nm,.asl 8200 z.2.length]] false)]) (fun z=>z.1) (M,cs) ⟨rfl,rfl⟩ (fun e ⟨_,hst⟩=>?_) fun T3 z hz ih3=>?_
    ·exact .oA [(0,some 0),(4096,some 4096),(8200,some 8200),(8208,some 8208)] []
    obtain ⟨k,ds⟩:=z
    obtain ⟨z1,z2⟩:=hz
    dsimp only at z1 z2
    simp only [tZ,↓un_u,simprocAttr,decide_eq_true_eq,decide_eq_false_iff_not]
    refine XE.brN (fun h6=>?_) (fun h6=>?_)
    ·have hwn:=i64_succ (i:=ns.length) (by omega)
     have hwk:=i64_pred (i:=k) (by omega) (by omega)
     have hw1:IntKind.i64.wrap (1 + (ns.length:Int)) = 1 + (ns.length:Int):=IntWalk.i64_in _ (by omega)
     refine XE.mp (fun _ _=>C1.im (c_Itoa ds.length (by omega)) (by rfl) (by rfl)) ?_
     simp only [tZ,↓un_u,simprocAttr,hwk,hw1]
     refine XE.sd (show 1 + 1≤9223372036854775807 by omega) (XE.sd (by omega) (XE.sd (by kernel_rfl) ?_))
     refine XE.next ih3 (k - 1,addL ds ns.length) ⟨?_,by dsimp only;rw [addL,List.length_append];simp;omega⟩ (by dsimp only;omega) fun e ⟨_,hst⟩=>?_
     ·dsimp only
      rw [← z1]
      obtain ⟨j,rfl⟩:∃ j,k = j + 1:=⟨k - 1,by omega⟩
      rfl
     ·rw [app_dg]
      have e1:addL ds ns.length = ds ++ [⟨⟨#[108,dgt ds.length]⟩,1 + (ns.length:Int)⟩]:=rfl
      rw [e1]
      exact .oA [(0,some 0),(4096,some 4096),(8200,some 8200),(8208,some 8208)] []
    ·have hk0:k = 0:=by omega
     subst hk0
     have hwn:=i64_succ (i:=ns.length) (by omega)
     rw [addN,← hsn] at z1
     simp only [tZ,↓un_u,simprocAttr,hwn]
     refine XE.next ih2 (ns ++ [M],x5.2) ⟨by simp;omega,fun x hx=>?_,b5⟩ (by simp;omega) fun e ⟨_,hst⟩=>?_
     ·rcases List.mem_append.1 hx with hx | hx
      ·exact y2 x hx
      ·rw [List.mem_singleton.1 hx];omega
     ·simp only [z1,List.length_append,List.length_cons,List.length_nil]
      rw [← z1]
      exact .oA [(0,some 0),(4096,some 4096),(8200,some 8200),(8208,some 8208)] []
   ·have hni:ns.length = i:=by omega
    have hok:=(kids_ok hnm hK3).2 ns hni y2
    refine XE.fin (⟨nm,lefL (kidsL i) 0 ns⟩,a3) ⟨⟨rfl,hok,by dsimp only;omega⟩,y3⟩ fun e ⟨_,hst⟩=>?_
    exact .oA [(0,some 0)] [8200]
end Go.Proofs
set_option linter.unusedSimpArgs false
set_option linter.unusedVariables false
namespace Go.Proofs
open Go Go.TL
set_option maxRecDepth 4000
set_option maxHeartbeats 4000000
theorem c_draw_Codes_Schema (l:List UInt8) (a:Nat) (hl:l.length≤400) (ha:a≤l.length) :
 ∃ r:Sch×Nat,(DrS r.1∧r.2≤l.length)∧Spc Tryz.prog F_draw_Codes_Schema [.ptr 0 1 0 0] [(0,oC l a)] (schT r.1) [(0,oC l r.2)]:=by
 obtain ⟨⟨A,a1⟩,⟨dA,ha1⟩,sA⟩:=c_draw_Codes_List nmOne (.inl rfl) l a hl ha
 obtain ⟨⟨B,a2⟩,⟨dB,ha2⟩,sB⟩:=c_draw_Codes_List nmTwo (.inr rfl) l a1 hl ha1
 dsimp only at dA ha1 sA dB ha2 sB
 have h1:=c_draw_Codes_One l a2 2 hl ha2 (by omega)
 have b1:=nx_le l a2 2 ha2
 generalize (nx l a2 2).2 = a3 at h1 b1
 generalize oneB l a2 2 = o at h1
 have h2:=c_draw_Codes_Range l a3 1 3 hl b1 (by omega) (by omega)
 have r2:=nx_range l a3 (3 - 1 + 1) (by omega)
 have b2:=nx_le l a3 (3 - 1 + 1) b1
 generalize nx l a3 (3 - 1 + 1) = x2 at h2 r2 b2
 obtain ⟨N,hN⟩:=Int.eq_ofNat_of_zero_le (show 0≤1 + x2.1 by omega)
 rw [hN] at h2
 refine spec_of_irX0 fn_draw_Codes_Schema mixm (fun r:Sch×Nat=>schT r.1) (fun r=>[(0,oC l r.2)]) (by simp) ?_
 unfold ir_draw_Codes_Schema
 refine sW ?_
 refine XE.mp (fun _ _=>C1.draw 0 l a _ sA rfl rfl rfl) ?_
 refine sW ?_
 refine XE.mp (fun _ _=>C1.draw 0 l a1 _ sB rfl rfl rfl) ?_
 refine sW ?_
 refine XE.mp (fun _ _=>C1.draw 0 l a2 _ h1 rfl rfl rfl) ?_
 refine sW ?_
 refine XE.brB (fun ho=>?_) (fun ho=>?_)
 ·refine XE.mp (fun _ _=>C1.draw 0 l a3 _ h2 rfl rfl rfl) ?_
  refine sW ?_
  refine XE.loopF mixm [4,15] (fun y:List Col×Nat=>y.1.length≤N∧(∀ i (h:i < y.1.length),DrM (3 + i) y.1[i])∧y.2≤l.length) (fun y=>[(4,vI ((N - y.1.length:Nat):Int))]) (fun y=>[(0,oC l y.2),(4096,.arr 2 [schT default] false),(8208,.arr 2 [cdlT A,cdlT B] false),(8220,.arr 7 (([whoC,sexC,jobC] ++ y.1).map colT) false),(8228,.arr 2 [.agg [.asl 8208 2,.asl 8220 (3 + y.1.length)]] false)]) (fun y=>N - y.1.length) ([],x2.2) ⟨by simp,fun i h=>by simp at h,b2⟩ (fun e ⟨_,hst⟩=>?_) fun T' y hy ih=>?_
  ·show Le _ _ ⟨[(4,vI N),(0,_),(2,_),(3,_)],[(0,oC l x2.2),(4096,.arr 2 [schT default] false),(8208,.arr 2 [cdlT A,cdlT B] false),(8220,.arr 7 [colT whoC,colT sexC,colT jobC] false),(8228,.arr 2 [.agg [.asl 8208 2,.asl 8220 3]] false)]⟩
   exact .oA [(0,some 0),(4096,some 4096),(8208,some 8208),(8220,some 8220),(8228,some 8228)] []
  obtain ⟨ms,a4⟩:=y
  obtain ⟨y1,y2,y3⟩:=hy
  dsimp only at y1 y2 y3
  simp only [tZ,↓un_u,simprocAttr,decide_eq_true_eq,decide_eq_false_iff_not]
  refine XE.brN (fun h4=>?_) (fun h4=>?_)
  ·have hlt:ms.length < N:=by omega
   have hI:=c_Itoa (3 + ms.length) (by omega)
   obtain ⟨⟨M,a5⟩,⟨dM,ha5⟩,sM⟩:=c_draw_Codes_Measure (3 + ms.length) l a4 hl y3
   dsimp only at dM ha5 sM
   have hwk:=i64_pred (i:=N - ms.length) (by omega) (by omega)
   refine XE.sd (by omega) ?_
   refine XE.mp (fun _ _=>C1.im hI (by rfl) (by rfl)) ?_
   simp only [tZ,↓un_u,simprocAttr,app_dg]
   refine XE.sd (show 1 + 1≤9223372036854775807 by omega) ?_
   refine XE.mp (fun _ _=>C1.draw 0 l a4 _ sM rfl rfl rfl) ?_
   simp only [tZ,↓un_u,simprocAttr,hwk]
   refine XE.sd (by omega) (XE.sd (by omega) (XE.sd (by kernel_rfl) ?_))
   refine XE.next ih (ms ++ [M],a5) ⟨by simp;omega,fun i h=>?_,ha5⟩ (by simp;omega) fun e ⟨_,hst⟩=>?_
   ·dsimp only at h ⊢
    by_cases hi:i < ms.length
    ·rw [List.getElem_append_left hi]
     exact y2 i hi
    ·have he:i = ms.length:=by rw [List.length_append] at h;simp at h;omega
     subst he
     rw [List.getElem_append_right (Nat.le_refl _)]
     simpa using dM
   ·have e1:N - (ms ++ [M]).length = N - ms.length - 1:=by rw [List.length_append];simp;omega
    simp only [e1]
    exact .oA [(0,some 0),(4096,some 4096),(8208,some 8208),(8220,some 8220),(8228,some 8228)] []
  ·have hnl:ms.length = N:=by omega
   refine XE.fin (⟨[A,B],[whoC,sexC,jobC] ++ ms⟩,a4) ⟨⟨⟨A,B,rfl,dA,dB⟩,⟨ms,.inr ⟨rfl,y2⟩,by omega,by omega⟩⟩,y3⟩ fun e ⟨_,hst⟩=>?_
   refine ⟨by omega,?_⟩
   exact .oA [(0,some 0)] [8208,8220]
 ·refine XE.mp (fun _ _=>C1.draw 0 l a3 _ h2 rfl rfl rfl) ?_
  refine sW ?_
  refine XE.loopF mixm [4,15] (fun y:List Col×Nat=>y.1.length≤N∧(∀ i (h:i < y.1.length),DrM (2 + i) y.1[i])∧y.2≤l.length) (fun y=>[(4,vI ((N - y.1.length:Nat):Int))]) (fun y=>[(0,oC l y.2),(4096,.arr 2 [schT default] false),(8208,.arr 2 [cdlT A,cdlT B] false),(8220,.arr 7 (([whoC,sexC] ++ y.1).map colT) false),(8228,.arr 2 [.agg [.asl 8208 2,.asl 8220 (2 + y.1.length)]] false)]) (fun y=>N - y.1.length) ([],x2.2) ⟨by simp,fun i h=>by simp at h,b2⟩ (fun e ⟨_,hst⟩=>?_) fun T' y hy ih=>?_
  ·show Le _ _ ⟨[(4,vI N),(0,_),(2,_),(3,_)],[(0,oC l x2.2),(4096,.arr 2 [schT default] false),(8208,.arr 2 [cdlT A,cdlT B] false),(8220,.arr 7 [colT whoC,colT sexC] false),(8228,.arr 2 [.agg [.asl 8208 2,.asl 8220 2]] false)]⟩
   exact .oA [(0,some 0),(4096,some 4096),(8208,some 8208),(8220,some 8220),(8228,some 8228)] []
  obtain ⟨ms,a4⟩:=y
  obtain ⟨y1,y2,y3⟩:=hy
  dsimp only at y1 y2 y3
  simp only [tZ,↓un_u,simprocAttr,decide_eq_true_eq,decide_eq_false_iff_not]
  refine XE.brN (fun h4=>?_) (fun h4=>?_)
  ·have hlt:ms.length < N:=by omega
   have hI:=c_Itoa (2 + ms.length) (by omega)
   obtain ⟨⟨M,a5⟩,⟨dM,ha5⟩,sM⟩:=c_draw_Codes_Measure (2 + ms.length) l a4 hl y3
   dsimp only at dM ha5 sM
   have hwk:=i64_pred (i:=N - ms.length) (by omega) (by omega)
   refine XE.sd (by omega) ?_
   refine XE.mp (fun _ _=>C1.im hI (by rfl) (by rfl)) ?_
   simp only [tZ,↓un_u,simprocAttr,app_dg]
   refine XE.sd (show 1 + 1≤9223372036854775807 by omega) ?_
   refine XE.mp (fun _ _=>C1.draw 0 l a4 _ sM rfl rfl rfl) ?_
   simp only [tZ,↓un_u,simprocAttr,hwk]
   refine XE.sd (by omega) (XE.sd (by omega) (XE.sd (by kernel_rfl) ?_))
   refine XE.next ih (ms ++ [M],a5) ⟨by simp;omega,fun i h=>?_,ha5⟩ (by simp;omega) fun e ⟨_,hst⟩=>?_
   ·dsimp only at h ⊢
    by_cases hi:i < ms.length
    ·rw [List.getElem_append_left hi]
     exact y2 i hi
    ·have he:i = ms.length:=by rw [List.length_append] at h;simp at h;omega
     subst he
     rw [List.getElem_append_right (Nat.le_refl _)]
     simpa using dM
   ·have e1:N - (ms ++ [M]).length = N - ms.length - 1:=by rw [List.length_append];simp;omega
    simp only [e1]
    exact .oA [(0,some 0),(4096,some 4096),(8208,some 8208),(8220,some 8220),(8228,some 8228)] []
  ·have hnl:ms.length = N:=by omega
   refine XE.fin (⟨[A,B],[whoC,sexC] ++ ms⟩,a4) ⟨⟨⟨A,B,rfl,dA,dB⟩,⟨ms,.inl ⟨rfl,y2⟩,by omega,by omega⟩⟩,y3⟩ fun e ⟨_,hst⟩=>?_
   refine ⟨by omega,?_⟩
   exact .oA [(0,some 0)] [8208,8220]
end Go.Proofs
set_option linter.unusedSimpArgs false
set_option linter.unusedVariables false
namespace Go.Proofs
open Go Go.TL
set_option maxRecDepth 4000
set_option maxHeartbeats 4000000
theorem DrS.col {s:Sch} (h:DrS s) {i:Nat} (hi:i < s.cols.length) (hk:(colAt s i).kind = 3):∃ n,DrM n (colAt s i):=by
 obtain ⟨ms,hc,h1,h3⟩:=h.cs
 have key:∀ (pre:List Col) (n:Nat),(∀ c∈pre,c.kind≠3)→s.cols = pre ++ ms→(∀ j (hj:j < ms.length),DrM (n + j) ms[j])→∃ n,DrM n (colAt s i):=by
  intro pre n hp he hm
  rw [colAt,getD_get hi] at hk ⊢
  by_cases c:i < pre.length
  ·have e:s.cols[i] = pre[i]:=by simp only [he];exact List.getElem_append_left c
   rw [e] at hk
   exact absurd hk (hp _ (List.getElem_mem c))
  ·have hl:i - pre.length < ms.length:=by rw [he,List.length_append] at hi;omega
   have e:s.cols[i] = ms[i - pre.length]:=by simp only [he];exact List.getElem_append_right (by omega)
   rw [e]
   exact ⟨_,hm _ hl⟩
 rcases hc with ⟨hc,hm⟩ | ⟨hc,hm⟩
 ·exact key [whoC,sexC] 2 (by simp [whoC,sexC]) (by rw [hc];rfl) hm
 ·exact key [whoC,sexC,jobC] 3 (by simp [whoC,sexC,jobC]) (by rw [hc];rfl) hm
theorem DrS.nl {s:Sch} (h:DrS s):s.lists.length = 2:=by
 obtain ⟨a,b,e,_⟩:=h.ls
 rw [e];rfl
theorem c_draw_Codes_ValueI (s:Sch) (hd:DrS s) (i:Nat) (hi:i < s.cols.length) (l:List UInt8) (a:Nat) (hl:l.length≤400) (ha:a≤l.length) :
 ∃ r:Int×Nat,(holdsB s i r.1 = true∧(i = 0→r.1≤60)∧r.2≤l.length)∧Spc Tryz.prog F_draw_Codes_Value [.ptr 0 1 0 0,schT s,vI i] [(0,oC l a)] (vI r.1) [(0,oC l r.2)]:=by
 have hE:=hd.ok
 have hok:=schE_ok hE
 have hat:colAt s i = s.cols[i]:=by rw [colAt,getD_get hi]
 have hk:=colE_kind (hok.cs i hi)
 have hH:∀ v,holdsB s i v = if s.cols[i].kind = 1 then inB v 1 1048575
  else if s.cols[i].kind = 2 then inB v 0 ((cdlAt s i).codes.length - 1) && (lvlC (cdlAt s i) v == lvlsL (cdlAt s i) - 1)
  else (s.cols[i].opt && (v == missI)) || inB v s.cols[i].low s.cols[i].high:=fun v=>by rw [holdsB,hat]
 by_cases k1:s.cols[i].kind = 1
 ·have h1:=c_draw_Codes_Range l a 1 60 hl ha (by omega) (by omega)
  have r1:=nx_range l a (60 - 1 + 1) (by omega)
  have b1:=nx_le l a (60 - 1 + 1) ha
  generalize nx l a (60 - 1 + 1) = x1 at h1 r1 b1
  refine ⟨(1 + x1.1,x1.2),⟨by rw [hH,if_pos k1,inB_ok];dsimp only;omega,fun _=>by dsimp only;omega,b1⟩,?_⟩
  have q:(s.cols[i].kind == 1) = true:=beq_iff_eq.2 k1
  refine spec_of_ir fn_draw_Codes_Value mixm (by simp) fun e _ hst=>W_start ?_
  unfold ir_draw_Codes_Value
  simp only [tZ,↓un_u,simprocAttr,Int.toNat_natCast,getD_mapT hi,q]
  refine ⟨by omega,?_⟩
  refine C1.draw 0 l a _ h1 rfl rfl rfl ?_
  refine sW ?_
  exact .oA [(0,some 0)] []
 have q1:(s.cols[i].kind == 1) = false:=beq_eq_false_iff_ne.2 k1
 have hi0:∀ v:Int,i = 0→v≤60:=fun v e=>by
  subst e
  have:=hok.c0
  rw [hat] at this
  exact absurd this k1
 by_cases k2:s.cols[i].kind = 2
 ·have q2:(s.cols[i].kind == 2) = true:=beq_iff_eq.2 k2
  have hlv:=c_ref02_Leaves s hok i hi (by rw [hat];exact k2)
  have hll:=leaves_len hok hi (by rw [hat];exact k2)
  obtain ⟨d1,d2⟩:=hok.cdl hi (by rw [hat];exact k2)
  have hne:0 < (leavesL s i).length:=leaves_ne d2
  have hlh:=fun v=>leaf_holds (s:=s) (i:=i) (by rw [hat];exact k2) d2 (v:=v)
  generalize leavesL s i = L at hlv hll hne hlh
  have h1:=c_draw_Codes_Next l a L.length hl ha (by omega)
  have r1:=nx_range l a L.length (by omega)
  have b1:=nx_le l a L.length ha
  generalize nx l a L.length = x1 at h1 r1 b1
  obtain ⟨m,hm⟩:=Int.eq_ofNat_of_zero_le r1.1
  have hmL:m < L.length:=by omega
  rw [hm] at h1
  refine ⟨(L[m],x1.2),⟨hlh _ (List.getElem_mem hmL),hi0 _,b1⟩,?_⟩
  refine spec_of_ir fn_draw_Codes_Value mixm (by simp) fun e _ hst=>W_start ?_
  unfold ir_draw_Codes_Value
  simp only [tZ,↓un_u,simprocAttr,Int.toNat_natCast,getD_mapT hi,q1,q2]
  refine ⟨by omega,?_⟩
  refine C1.im hlv (by rfl) (by rfl) ?_
  refine sW ?_
  refine C1.draw 0 l a _ h1 rfl rfl rfl ?_
  simp only [tZ,↓un_u,simprocAttr,Int.toNat_natCast,getD_mapT hmL]
  refine ⟨by omega,?_⟩
  exact .oA [(0,some 0)] []
 have q2:(s.cols[i].kind == 2) = false:=beq_eq_false_iff_ne.2 k2
 have k3:s.cols[i].kind = 3:=by rw [hat] at hk;omega
 obtain ⟨n,hM⟩:=hd.col hi (by rw [hat];exact k3)
 rw [hat] at hM
 have hlo:=hM.low
 have hhi:=hM.high
 have hin:∀ v,s.cols[i].low≤v→v≤s.cols[i].high→holdsB s i v = true:=fun v h1 h2=>by
  rw [hH,if_neg k1,if_neg k2,Bool.or_eq_true,inB_ok]
  exact .inr ⟨h1,h2⟩
 cases ho:s.cols[i].opt with
 | false=>
   obtain ⟨v,a2,v1,v2,ha2,sR⟩:=x_Range l a s.cols[i].low s.cols[i].high hl ha (by omega) (by omega)
   refine ⟨(v,a2),⟨hin v v1 v2,hi0 _,ha2⟩,?_⟩
   refine spec_of_ir fn_draw_Codes_Value mixm (by simp) fun e _ hst=>W_start ?_
   unfold ir_draw_Codes_Value
   simp only [tZ,↓un_u,simprocAttr,Int.toNat_natCast,getD_mapT hi,q1,q2,ho]
   refine ⟨by omega,?_⟩
   refine C2.no (by simp) ?_
   refine sW ?_
   refine C1.draw 0 l a _ sR rfl rfl rfl ?_
   refine sW ?_
   exact .oA [(0,some 0)] []
 | true=>
   obtain ⟨o,a1,b1,h1⟩:=x_One l a 4 hl ha (by omega)
   cases o with
   | true=>
     refine ⟨(missI,a1),⟨by rw [hH,if_neg k1,if_neg k2,ho];simp,hi0 _,b1⟩,?_⟩
     refine spec_of_ir fn_draw_Codes_Value mixm (by simp) fun e _ hst=>W_start ?_
     unfold ir_draw_Codes_Value
     simp only [tZ,↓un_u,simprocAttr,Int.toNat_natCast,getD_mapT hi,q1,q2,ho]
     refine ⟨by omega,?_⟩
     refine C2.one (by trivial) (C1.draw 0 l a _ h1 rfl rfl rfl ?_)
     refine sW ?_
     exact .oA [(0,some 0)] []
   | false=>
     obtain ⟨v,a2,v1,v2,ha2,sR⟩:=x_Range l a1 s.cols[i].low s.cols[i].high hl b1 (by omega) (by omega)
     refine ⟨(v,a2),⟨hin v v1 v2,hi0 _,ha2⟩,?_⟩
     refine spec_of_ir fn_draw_Codes_Value mixm (by simp) fun e _ hst=>W_start ?_
     unfold ir_draw_Codes_Value
     simp only [tZ,↓un_u,simprocAttr,Int.toNat_natCast,getD_mapT hi,q1,q2,ho]
     refine ⟨by omega,?_⟩
     refine C2.one (by trivial) (C1.draw 0 l a _ h1 rfl rfl rfl ?_)
     refine sW ?_
     refine C1.draw 0 l a1 _ sR rfl rfl rfl ?_
     refine sW ?_
     exact .oA [(0,some 0)] []
theorem c_draw_Codes_RowI (s:Sch) (hD:DrS s) (l:List UInt8) (a:Nat) (hl:l.length≤400) (ha:a≤l.length) :
 ∃ r:List Int×Nat,(rowE s r.1 = 0∧hd r.1≤60∧r.2≤l.length)∧Spc Tryz.prog F_draw_Codes_Row [.ptr 0 1 0 0,schT s] [(0,oC l a)] (.asl 1 r.1.length) [(0,oC l r.2),(1,.arr 1 (r.1.map vI) false)]:=by
 have hE:=hD.ok
 have hnc:=(schE_ok hE).nc
 refine spec_of_irX0 fn_draw_Codes_Row mixm (fun r:List Int×Nat=>.asl 1 r.1.length) (fun r=>[(0,oC l r.2),(1,.arr 1 (r.1.map vI) false)]) (by simp) ?_
 unfold ir_draw_Codes_Row
 refine sW ?_
 refine XE.loopF mixm [5,10] (fun y:List Int×Nat=>y.1.length≤s.cols.length∧(∀ i,i < y.1.length→holdsB s i (y.1.getD i 0) = true)∧hd y.1≤60∧y.2≤l.length) (fun y=>[(5,.asl 1 y.1.length),(10,vI y.1.length)]) (fun y=>[(0,oC l y.2),(4096,.arr 2 [schT s] false),(1,.arr 1 (y.1.map vI) false)]) (fun y=>s.cols.length - y.1.length) ([],a) ⟨by simp,by simp,by simp [hd],ha⟩ (fun e ⟨_,hst⟩=>?_) fun T' y hy ih=>?_
 ·exact .oA [(0,some 0),(4096,some 4096),(1,none)] []
 obtain ⟨rs,a1⟩:=y
 obtain ⟨y1,y2,y5,y3⟩:=hy
 dsimp only at y1 y2 y3 y5
 simp only [tZ,↓un_u,simprocAttr,decide_eq_true_eq,decide_eq_false_iff_not]
 refine XE.brN (fun h4=>?_) (fun h4=>?_)
 ·have hlt:rs.length < s.cols.length:=by omega
  obtain ⟨⟨v,a2⟩,⟨hv,hv6,ha2⟩,sV⟩:=c_draw_Codes_ValueI s hD rs.length hlt l a1 hl y3
  dsimp only at hv hv6 ha2 sV
  have hwi:=i64_succ (i:=rs.length) (by omega)
  refine XE.mp (fun _ _=>C1.draw 0 l a1 _ sV rfl rfl rfl) ?_
  simp only [tZ,↓un_u,simprocAttr,hwi]
  refine XE.sd (by omega) ?_
  refine XE.next ih (rs ++ [v],a2) ⟨by simp;omega,fun i h=>?_,?_,ha2⟩ (by simp;omega) fun e ⟨_,hst⟩=>?_
  ·dsimp only at h ⊢
   by_cases hi:i < rs.length
   ·rw [List.getD_eq_getElem?_getD,List.getElem?_append_left hi,← List.getD_eq_getElem?_getD]
    exact y2 i hi
   ·have he:i = rs.length:=by rw [List.length_append] at h;simp at h;omega
    subst he
    rw [List.getD_eq_getElem?_getD,List.getElem?_append_right (Nat.le_refl _)]
    simpa using hv
  ·cases rs with
   | nil=>exact hv6 rfl
   | cons r0 rs=>exact y5
  ·exact .oA [(0,some 0),(4096,some 4096),(1,some 1)] []
 ·have hnl:rs.length = s.cols.length:=by omega
  refine XE.fin (rs,a1) ⟨rowE_of hE hnl y2,y5,y3⟩ fun e ⟨_,hst⟩=>?_
  exact .oA [(0,some 0),(1,some 1)] []
theorem c_draw_Codes_Row (s:Sch) (hd:DrS s) (l:List UInt8) (a:Nat) (hl:l.length≤400) (ha:a≤l.length) :
 ∃ r:List Int×Nat,(rowE s r.1 = 0∧r.2≤l.length)∧Spc Tryz.prog F_draw_Codes_Row [.ptr 0 1 0 0,schT s] [(0,oC l a)] (.asl 1 r.1.length) [(0,oC l r.2),(1,.arr 1 (r.1.map vI) false)]:=by
 obtain ⟨r,⟨h1,_,h3⟩,h⟩:=c_draw_Codes_RowI s hd l a hl ha
 exact ⟨r,⟨h1,h3⟩,h⟩
theorem c_draw_Codes_RowSI (s:Sch) (hD:DrS s) (l:List UInt8) (a:Nat) (hl:l.length≤400) (ha:a≤l.length) :
 ∃ r:List Int×Nat,(rowE s r.1 = 0∧hd r.1≤60∧r.2≤l.length)∧Spc Tryz.prog F_draw_Codes_Row [.ptr 0 1 0 0,schT s] [(0,oC l a)] (vIs r.1) [(0,oC l r.2)]:=by
 obtain ⟨r,hr,hs⟩:=c_draw_Codes_RowI s hD l a hl ha
 refine ⟨r,hr,hs.weaken ?_⟩
 refine .of [(0,some 0)] [1] rfl rfl ?_ ?_
 all_goals (try exact clA)
structure DrX (x:Src):Prop where
 sch:DrS x.sch
 ok:SrcOk x
 gone:x.gone = []
 ver:x.ver = 0
abbrev srcZ (s:Src):T:=.agg [.sl 2 (s.sch.lists.map cdlT),.sl 7 (s.sch.cols.map colT),vRw s.rows,.v (.slice none 0 0),vI s.ver]
theorem c_draw_Codes_SourceZ (most:Int) (l:List UInt8) (a:Nat) (hl:l.length≤400) (ha:a≤l.length) (hm:0≤most∧most≤100) :
 ∃ r:Src×Nat,((DrX r.1∧(r.1.rows.length:Int)≤most∧∀ r2∈r.1.rows,hd r2≤60)∧r.2≤l.length)∧Spc Tryz.prog F_draw_Codes_Source [.ptr 0 1 0 0,vI most] [(0,oC l a)] (srcZ r.1) [(0,oC l r.2)]:=by
 obtain ⟨⟨s,a1⟩,⟨hD,ha1⟩,sS⟩:=c_draw_Codes_Schema l a hl ha
 dsimp only at hD ha1 sS
 obtain ⟨v,a2,v1,v2,ha2,sN⟩:=x_Next l a1 (most + 1) hl ha1 (by omega)
 obtain ⟨N,rfl⟩:=Int.eq_ofNat_of_zero_le v1
 have hE:=hD.ok
 have hw:IntKind.i64.wrap (most + 1) = most + 1:=IntWalk.i64_in _ (by omega)
 refine spec_of_irX0 fn_draw_Codes_Source mixm (fun r:Src×Nat=>srcZ r.1) (fun r=>[(0,oC l r.2)]) (by simp) ?_
 unfold ir_draw_Codes_Source
 refine sW ?_
 refine XE.mp (fun _ _=>C1.draw 0 l a _ sS rfl rfl rfl) ?_
 simp only [tZ,↓un_u,simprocAttr,hw]
 refine XE.mp (fun _ _=>C1.draw 0 l a1 _ sN rfl rfl rfl) ?_
 refine sW ?_
 refine XE.loopF mixm [7] (fun y:Nat×List (List Int)×Nat=>y.1≤N∧y.2.1.length + y.1≤N∧AscR y.2.1∧(∀ r∈y.2.1,rowE s r = 0∧hd r≤60)∧y.2.2≤l.length) (fun y=>[(7,vI y.1)]) (fun y=>[(0,oC l y.2.2),(4096,.arr 5 [srcT src0] false),(8200,.arr 2 [schT s] false),(12296,.arr 5 [.agg [.sl 2 (s.lists.map cdlT),.sl 7 (s.cols.map colT),vRw y.2.1,.v (.slice none 0 0),vI 0]] false)]) (fun y=>y.1) (N,[],a2) ⟨by simp,by simp,.nil,by simp,ha2⟩ (fun e ⟨_,hst⟩=>?_) fun T' y hy ih=>?_
 ·exact .oA [(0,some 0),(4096,some 4096),(8200,some 8200),(12296,some 12296)] []
 obtain ⟨k,rs,a3⟩:=y
 obtain ⟨y0,y1,y2,y3,y4⟩:=hy
 dsimp only at y0 y1 y2 y3 y4
 simp only [tZ,↓un_u,simprocAttr,decide_eq_true_eq,decide_eq_false_iff_not]
 refine XE.brN (fun h4=>?_) (fun h4=>?_)
 ·obtain ⟨⟨row,a4⟩,⟨hr,hr6,ha4⟩,sR⟩:=c_draw_Codes_RowSI s hD l a3 hl y4
  dsimp only at hr hr6 ha4 sR
  have hwk:=i64_pred (i:=k) (by omega) (by omega)
  refine XE.mp (fun _ _=>C1.draw 0 l a3 _ sR rfl rfl rfl) ?_
  refine sW ?_
  refine XE.mp (fun _ _=>C1.im (c_ref04_Put rs row (by omega) (fun r hr=>row_pos (y3 r hr).1) (row_pos hr)) (by rfl) (by rfl)) ?_
  simp only [tZ,↓un_u,simprocAttr,hwk]
  refine XE.sd (by kernel_rfl) ?_
  have hpl:=putR_len rs row
  refine XE.next ih (k - 1,putR rs row,a4) ⟨by dsimp only;omega,by dsimp only;omega,putR_asc y2,fun r hr2=>?_,ha4⟩ (by dsimp only;omega) fun e ⟨_,hst⟩=>?_
  ·rcases (putR_mem y2).1 hr2 with h | h
   ·rw [h];exact ⟨hr,hr6⟩
   ·exact y3 r h.1
  ·exact .oA [(0,some 0),(4096,some 4096),(8200,some 8200),(12296,some 12296)] []
 ·have hk:k = 0:=by omega
  refine XE.fin (⟨s,rs,[],0⟩,a3) ⟨⟨⟨hD,⟨hE,by dsimp only;omega,by simp,by simp,fun r hr=>(y3 r hr).1,y2,by simp,.nil⟩,rfl,rfl⟩,by dsimp only;omega,fun r hr=>(y3 r hr).2⟩,y4⟩ fun e ⟨_,hst⟩=>?_
  exact .oA [(0,some 0)] []
theorem c_draw_Codes_SourceI (most:Int) (l:List UInt8) (a:Nat) (hl:l.length≤400) (ha:a≤l.length) (hm:0≤most∧most≤100) :
 ∃ r:Src×Nat,((DrX r.1∧(r.1.rows.length:Int)≤most∧∀ r2∈r.1.rows,hd r2≤60)∧r.2≤l.length)∧Spc Tryz.prog F_draw_Codes_Source [.ptr 0 1 0 0,vI most] [(0,oC l a)] (srcT r.1) [(0,oC l r.2)]:=by
 obtain ⟨r,hr,hs⟩:=c_draw_Codes_SourceZ most l a hl ha hm
 refine ⟨r,hr,hs.weaken ?_⟩
 have hg:r.1.gone.map vI = []:=by rw [hr.1.1.gone];rfl
 refine .of [(0,some 0)] [] rfl rfl ?_ ?_
 all_goals (try exact clA)
 all_goals (try exact hg)
theorem c_draw_Codes_Source (most:Int) (l:List UInt8) (a:Nat) (hl:l.length≤400) (ha:a≤l.length) (hm:0≤most∧most≤100) :
 ∃ r:Src×Nat,(DrX r.1∧r.2≤l.length)∧Spc Tryz.prog F_draw_Codes_Source [.ptr 0 1 0 0,vI most] [(0,oC l a)] (srcT r.1) [(0,oC l r.2)]:=by
 obtain ⟨r,⟨h1,h3⟩,h⟩:=c_draw_Codes_SourceI most l a hl ha hm
 exact ⟨r,⟨h1.1,h3⟩,h⟩
end Go.Proofs
set_option linter.unusedSimpArgs false
set_option linter.unusedVariables false
namespace Go.Proofs
open Go Go.TL
set_option maxRecDepth 4000
set_option maxHeartbeats 4000000
structure DrE (x:Src) (d:Edt):Prop where
 kind:1≤d.kind∧d.kind≤4
 len:d.row.length≤8
 id:0≤d.id∧d.id≤1048575
theorem c_draw_Codes_Edit (x:Src) (hD:DrS x.sch) (hr:∀ r∈x.rows,0 < r.length) (hri:∀ r∈x.rows,1≤hd r∧hd r≤1048575) (hn:x.rows.length≤1000) (l:List UInt8) (a:Nat) (hl:l.length≤400) (ha:a≤l.length) :
 ∃ r:Edt×Nat,(DrE x r.1∧r.2≤l.length)∧Spc Tryz.prog F_draw_Codes_Edit [.ptr 0 1 0 0,srcT x] [(0,oC l a)] (edtT r.1) [(0,oC l r.2)]:=by
 obtain ⟨k,a1,k1,k2,ha1,sK⟩:=x_Range l a 1 4 hl ha (by omega) (by omega)
 obtain ⟨w,c,i1,i2,hc,sI⟩:=x_Range l a1 1 60 hl ha1 (by omega) (by omega)
 have hnc:=(schE_ok hD.ok).nc
 refine spec_of_irX0 fn_draw_Codes_Edit mixm (fun r:Edt×Nat=>edtT r.1) (fun r=>[(0,oC l r.2)]) (by simp) ?_
 unfold ir_draw_Codes_Edit
 refine sW ?_
 refine XE.mp (fun _ _=>C1.draw 0 l a _ sK rfl rfl rfl) ?_
 refine sW ?_
 refine XE.mp (fun _ _=>C1.draw 0 l a1 _ sI rfl rfl rfl) ?_
 rcases Nat.eq_zero_or_pos x.rows.length with h0 | h0
 focus
  have e0:decide ((x.rows.length:Int) > 0) = false:=decide_eq_false (by omega)
  simp only [tZ,↓un_u,simprocAttr,e0]
  refine XE.mp (fun _ _=>C2.no (by simp)) ?_
  refine sW ?_
  obtain ⟨v,hv⟩:∃ v,v = w:=⟨_,rfl⟩
  obtain ⟨b,hb⟩:∃ b,b = c:=⟨_,rfl⟩
  rw [← hv,← hb]
  have hb:b≤l.length:=by omega
  have hvi:0≤v∧v≤1048575:=by omega
 rotate_left
 focus
  have e0:decide ((x.rows.length:Int) > 0) = true:=decide_eq_true (by omega)
  obtain ⟨o,a3,ha3,sO⟩:=x_One l c 2 hl hc (by omega)
  obtain ⟨j,a4,j1,j2,ha4,sJ⟩:=x_Next l a3 x.rows.length hl ha3 (by omega)
  obtain ⟨m,rfl⟩:=Int.eq_ofNat_of_zero_le j1
  have hm:m < x.rows.length:=by omega
  have hgm:=getD_hd (hr _ (List.getElem_mem hm))
  have hrm:=hr _ (List.getElem_mem hm)
  simp only [tZ,↓un_u,simprocAttr,e0]
  refine XE.mp (fun _ _=>C2.one (by trivial)) ?_
  refine XE.mp (fun _ _=>C1.draw 0 l c _ sO rfl rfl rfl) ?_
  refine sW ?_
  refine XE.brB (fun h3=>?_) (fun h3=>?_)
  focus
   refine XE.mp (fun _ _=>C1.draw 0 l a3 _ sJ rfl rfl rfl) ?_
   simp only [tZ,↓un_u,simprocAttr,Int.toNat_natCast,getD_mapT hm,hgm]
   refine XE.sd (by omega) (XE.sd (by omega) (XE.sd (by kernel_rfl) ?_))
   have hvi:=hri _ (List.getElem_mem hm)
   generalize hd x.rows[m] = v at hvi ⊢
   obtain ⟨b,hb⟩:∃ b,b = a4:=⟨_,rfl⟩
   rw [← hb]
   have hb:b≤l.length:=by omega
  rotate_left
  focus
   obtain ⟨v,hv⟩:∃ v,v = w:=⟨_,rfl⟩
   obtain ⟨b,hb⟩:∃ b,b = a3:=⟨_,rfl⟩
   rw [← hv,← hb]
   have hb:b≤l.length:=by omega
   have hvi:0≤v∧v≤1048575:=by omega
 all_goals (
  refine XE.brB (fun h5=>?_) (fun h5=>?_)
  ·obtain ⟨⟨row,a2⟩,⟨hr2,ha2⟩,sR⟩:=c_draw_Codes_Row x.sch hD l b hl hb
   dsimp only at hr2 ha2 sR
   have hrl:=(rowE_ok hr2).2.1
   obtain ⟨r0,rs,rfl⟩:∃ r0 rs,row = r0 :: rs:=by
    cases row with
    | nil=>have:=row_pos hr2;simp at this
    | cons r0 rs=>exact ⟨r0,rs,rfl⟩
   refine XE.mp (fun _ _=>C1.drawF 0 24588 l b a2 sR rfl rfl (ints_v _) rfl) ?_
   simp only [tZ,↓un_u,simprocAttr,beq_iff_eq,beq_eq_false_iff_ne]
   refine XE.brN (fun h6=>?_) (fun h6=>?_)
   ·refine XE.sd (by omega) (XE.sd (by omega) ?_)
    refine XE.fin (⟨k,v :: rs,0⟩,a2) ⟨⟨⟨k1,k2⟩,by simp at hrl ⊢;omega,by simp⟩,ha2⟩ fun e ⟨_,hst⟩=>?_
    exact .oA [(0,some 0)] [24588]
   ·refine XE.fin (⟨k,r0 :: rs,0⟩,a2) ⟨⟨⟨k1,k2⟩,by dsimp only;omega,by simp⟩,ha2⟩ fun e ⟨_,hst⟩=>?_
    exact .oA [(0,some 0)] [24588]
  ·refine XE.fin (⟨k,[],v⟩,b) ⟨⟨⟨k1,k2⟩,by simp,by dsimp only;omega⟩,hb⟩ fun e ⟨_,hst⟩=>?_
   exact .oA [(0,some 0)] []
  )
theorem c_draw_Codes_EditsO (x:Src) (hx:DrX x) (most:Int) (l:List UInt8) (a:Nat) (hl:l.length≤400) (ha:a≤l.length) (hm:0≤most∧most≤100) :
 ∃ r:List Edt×Nat,((atS x r.1).2 = 0∧r.1.length≤most∧(∀ d∈r.1,DrE x d)∧r.2≤l.length)∧Spc Tryz.prog F_draw_Codes_Edits [.ptr 0 1 0 0,srcT x,vI most] [(0,oC l a)] (.asl 1 r.1.length) [(0,oC l r.2),(1,.arr 3 (r.1.map edtT) false)]:=by
 obtain ⟨v,a1,v1,v2,ha1,sN⟩:=x_Next l a (most + 1) hl ha (by omega)
 obtain ⟨N,rfl⟩:=Int.eq_ofNat_of_zero_le v1
 have hw:IntKind.i64.wrap (most + 1) = most + 1:=IntWalk.i64_in _ (by omega)
 refine spec_of_irX0 fn_draw_Codes_Edits mixm (fun r:List Edt×Nat=>.asl 1 r.1.length) (fun r=>[(0,oC l r.2),(1,.arr 3 (r.1.map edtT) false)]) (by simp) ?_
 unfold ir_draw_Codes_Edits
 simp only [tZ,↓un_u,simprocAttr,hw]
 refine XE.mp (fun _ _=>C1.draw 0 l a _ sN rfl rfl rfl) ?_
 refine sW ?_
 refine XE.loopF mixm [7,8] (fun y:Nat×List Edt×Nat=>y.2.1.length + y.1≤N∧(atS x y.2.1).2 = 0∧(∀ d∈y.2.1,DrE x d)∧y.2.2≤l.length) (fun y=>[(7,.asl 1 y.2.1.length),(8,vI y.1)]) (fun y=>[(0,oC l y.2.2),(4096,.arr 5 [srcT (atS x y.2.1).1] false),(1,.arr 3 (y.2.1.map edtT) false)]) (fun y=>y.1) (N,[],a1) ⟨by simp,rfl,by simp,ha1⟩ (fun e ⟨_,hst⟩=>?_) fun T' y hy ih=>?_
 ·show Le _ _ ⟨_,[(0,oC l a1),(4096,.arr 5 [srcT x] false),(1,.arr 3 [] false)]⟩
  exact .oA [(0,some 0),(4096,some 4096),(1,none)] []
 obtain ⟨k,es,a2⟩:=y
 obtain ⟨y1,y2,y3,y4⟩:=hy
 dsimp only at y1 y2 y3 y4
 have hso:=atS_ok hx.ok (by rw [hx.gone,hx.ver];simp) y2
 have hsn:=fun d=>atS_snoc es x d y2
 simp only [tZ,↓un_u,simprocAttr,decide_eq_true_eq,decide_eq_false_iff_not]
 generalize hz2:(atS x es).1 = z at hso hsn ⊢
 refine XE.brN (fun h4=>?_) (fun h4=>?_)
 ·have hok:=hso.1
  have hsm:SrcSm z:=⟨(schE_ok hok.sch).sm,fun r hr=>by
   have:=(rowE_ok (hok.rows r hr)).2.1
   have:=(schE_ok hok.sch).nc
   omega⟩
  have hnr:=hok.nr
  obtain ⟨⟨d,a3⟩,⟨hd1,ha3⟩,sE⟩:=c_draw_Codes_Edit z (by rw [hso.2.2];exact hx.sch) hok.rowp (fun r hr=>hd_in (hok.rows r hr)) (by omega) l a2 hl y4
  dsimp only at hd1 ha3 sE
  have hdl:=hd1.len
  have hsn:=hsn d
  have hwk:=i64_pred (i:=k) (by omega) (by omega)
  refine XE.mp (fun _ _=>C1.draw 0 l a2 _ sE rfl rfl rfl) ?_
  refine sW ?_
  refine XE.mp (fun _ _=>C1.im (c_ref04_Apply z d hsm (by omega)) (by rfl) (by rfl)) ?_
  simp only [tZ,↓un_u,simprocAttr,hwk,beq_iff_eq,beq_eq_false_iff_ne]
  refine XE.brN (fun h5=>?_) (fun h5=>?_)
  ·rw [if_neg (by rw [h5];simp)] at hsn
   refine XE.sd (by omega) ?_
   refine XE.next ih (k - 1,es ++ [d],a3) ⟨by simp;omega,by dsimp only;rw [hsn],fun d2 hd2=>?_,ha3⟩ (by dsimp only;omega) fun e ⟨_,hst⟩=>?_
   ·rcases List.mem_append.1 hd2 with h | h
    ·exact y3 d2 h
    ·rw [List.mem_singleton.1 h];exact ⟨hd1.kind,hdl,hd1.id⟩
   ·dsimp only
    simp only [hsn]
    exact .oA [(0,some 0),(4096,some 4096),(1,some 1)] []
  ·refine XE.next ih (k - 1,es,a3) ⟨by dsimp only;omega,y2,y3,ha3⟩ (by dsimp only;omega) fun e ⟨_,hst⟩=>?_
   dsimp only
   rw [hz2]
   exact .oA [(0,some 0),(4096,some 4096),(1,some 1)] []
 ·refine XE.fin (es,a2) ⟨y2,by dsimp only;omega,y3,y4⟩ fun e ⟨_,hst⟩=>?_
  exact .oA [(0,some 0),(1,some 1)] []
end Go.Proofs
set_option linter.unusedSimpArgs false
set_option linter.unusedVariables false
namespace Go.Proofs
open Go Go.TL
def modI (n m:Int):Int:=if m < 1 then 0 else n % m
theorem c_draw_Mod (n m:Int) (hm:m≤1000000000):Spc Tryz.prog F_draw_Mod [vI n,vI m] [] (vI (modI n m)) []:=by
 refine spec_of_ir fn_draw_Mod mixm (by simp) fun e _ hst=>W_start ?_
 unfold ir_draw_Mod
 simp only [tZ,↓un_u,simprocAttr,decide_eq_true_eq,decide_eq_false_iff_not]
 refine ⟨fun h=>?_,fun h=>?_⟩
 ·rw [modI,if_pos h]
  exact .imR rfl rfl
 rw [modI,if_neg h]
 have h1:=Int.tmod_lt_of_pos n (show 0 < m by omega)
 have h2:=Int.lt_tmod_of_pos n (show 0 < m by omega)
 have h3:=Int.emod_nonneg n (b:=m) (by omega)
 have h4:=Int.emod_lt_of_pos n (b:=m) (by omega)
 have h5:n % m = n.tmod m∨n % m = n.tmod m + m:=by
  rw [Int.tmod_eq_emod]
  split
  ·left;omega
  ·right
   rw [show (m.natAbs:Int) = m by omega]
   omega
 refine ⟨by omega,fun h=>?_,fun h=>?_⟩
 ·have hw:IntKind.i64.wrap (n.tmod m + m) = n % m:=by rw [IntWalk.i64_in _ (by omega)];omega
  rw [hw]
  exact .imR rfl rfl
 ·have hw:n.tmod m = n % m:=by omega
  rw [hw]
  exact .imR rfl rfl
end Go.Proofs
set_option linter.unusedSimpArgs false
set_option linter.unusedVariables false
namespace Go.Proofs
open Go Go.TL
set_option maxRecDepth 4000
set_option maxHeartbeats 8000000
theorem modI_in (n:Int) {m:Int} (h:0 < m):0≤modI n m∧modI n m < m:=by
 unfold modI
 rw [if_neg (by omega)]
 exact ⟨Int.emod_nonneg n (by omega),Int.emod_lt_of_pos n h⟩
end Go.Proofs
set_option linter.unusedSimpArgs false
set_option linter.unusedVariables false
namespace Go.Proofs
open Go Go.TL
set_option maxRecDepth 4000
set_option maxHeartbeats 8000000
end Go.Proofs
set_option linter.unusedSimpArgs false
set_option linter.unusedVariables false
namespace Go.Proofs
open Go Go.TL
set_option maxRecDepth 4000
set_option maxHeartbeats 8000000
open So
theorem setI_snoc (l:List Int) (x:Int):setI (l ++ [x]) = insU ltI eqI2 (setI l) x:=by unfold setI;rw [List.foldl_append];rfl
def touchL (e:Edt):List Int:=if e.kind = 1∨e.kind = 2 then (if 0 < e.row.length then [hd e.row] else []) else if e.kind = 3∨e.kind = 4 then [e.id] else []
def segL (es:List Edt) (a i:Nat):List Int:=((es.take i).drop a).flatMap touchL
def touchS (es:List Edt) (a b:Int):List Int:=if a < 0∨a > b∨b > es.length then [] else setI (segL es a.toNat b.toNat)
theorem segL_self (es:List Edt) (a:Nat):segL es a a = []:=by
 unfold segL
 rw [List.drop_eq_nil_of_le (by rw [List.length_take];omega)]
 rfl
theorem segL_succ {es:List Edt} {a i:Nat} (h:i < es.length) (ha:a≤i):segL es a (i + 1) = segL es a i ++ touchL es[i]:=by
 unfold segL
 rw [take_snoc h,List.drop_append_of_le_length (by rw [List.length_take];omega),List.flatMap_append,List.flatMap_cons,List.flatMap_nil,List.append_nil]
theorem touchL_len (e:Edt):(touchL e).length≤1:=by
 unfold touchL
 split
 ·split <;> simp
 ·split <;> simp
theorem seg_len:∀ m:List Edt,(m.flatMap touchL).length≤m.length
 | []=>by simp
 | e :: m=>by
   rw [List.flatMap_cons,List.length_append,List.length_cons]
   have:=seg_len m
   have:=touchL_len e
   omega
theorem segL_len (es:List Edt) (a i:Nat):(segL es a i).length≤es.length:=by
 have:=seg_len ((es.take i).drop a)
 rw [List.length_drop,List.length_take] at this
 unfold segL
 omega
theorem c_ref04_Touched (es:List Edt) (a b:Int) (hl:es.length≤30000):Spc Tryz.prog F_ref04_Touched [.sl 3 (es.map edtT),vI a,vI b] [] (vIs (touchS es a b)) []:=by
 refine spec_of_ir fn_ref04_Touched mixm (by simp) fun e _ hst=>W_start ?_
 unfold ir_ref04_Touched
 refine sW ?_
 refine sD ?_
 refine ⟨fun h=>?_,fun h=>?_⟩
 ·rw [touchS,if_pos (by omega)]
  exact .oA [] []
 rw [touchS,if_neg (by omega)]
 obtain ⟨A,rfl⟩:=Int.eq_ofNat_of_zero_le (show 0≤a by omega)
 obtain ⟨B,rfl⟩:=Int.eq_ofNat_of_zero_le (show 0≤b by omega)
 simp only [Int.toNat_natCast]
 refine W_loopF mixm (α:=Nat) [7,8] (fun i=>A≤i∧i≤B) (fun i=>[(7,vIs (setI (segL es A i))),(8,vI i)]) (fun i=>[]) (fun i=>B - i) A ⟨by omega,by omega⟩ ?_ fun i hi=>?_
 ·rw [segL_self]
  exact .oA [] []
 obtain ⟨i1,i2⟩:=hi
 refine sD ?_
 refine ⟨fun h2=>?_,fun h2=>?_⟩
 ·have hi2:i < es.length:=by omega
  have hwi:=i64_succ (i:=i) (by omega)
  have hs:=segL_succ hi2 i1
  have hsl:=segL_len es A i
  have hsl2:=set_len (segL es A i)
  have hP1:=c_ref01_Put (setI (segL es A i)) (hd es[i].row) (by omega)
  have hP2:=c_ref01_Put (setI (segL es A i)) es[i].id (by omega)
  simp only [tZ,↓un_u,simprocAttr,Int.toNat_natCast,getD_mapT hi2,tD,beq_iff_eq,beq_eq_false_iff_ne]
  have hT:touchL es[i] = if es[i].kind = 1∨es[i].kind = 2 then (if 0 < es[i].row.length then [hd es[i].row] else []) else if es[i].kind = 3∨es[i].kind = 4 then [es[i].id] else []:=rfl
  refine ⟨by omega,?_⟩
  by_cases k12:es[i].kind = 1∨es[i].kind = 2
  ·rw [if_pos k12] at hT
   refine mid (fun hmain=>⟨fun k1=>⟨fun _=>hmain,fun k=>absurd k1 k⟩,fun k1=>⟨fun k2=>hmain,fun k2=>absurd k12 fun h=>h.elim k1 k2⟩⟩) ?_
   refine ⟨by omega,fun h4=>?_,fun h4=>?_⟩
   ·have h5:0 < es[i].row.length:=by omega
    rw [if_pos h5] at hT
    rw [hT] at hs
    simp only [tZ,↓un_u,simprocAttr,getD_hd h5]
    refine ⟨by omega,by omega,?_⟩
    refine C1.im hP1 (by rfl) (by rfl) ?_
    simp only [tZ,↓un_u,simprocAttr,hwi]
    refine ⟨i + 1,⟨by omega,by omega⟩,by omega,?_⟩
    rw [hs,setI_snoc]
    exact .oA [] []
   ·rw [if_neg (by omega)] at hT
    rw [hT,List.append_nil] at hs
    simp only [tZ,↓un_u,simprocAttr,hwi]
    refine ⟨i + 1,⟨by omega,by omega⟩,by omega,?_⟩
    rw [hs]
    exact .oA [] []
  rw [if_neg k12] at hT
  refine ⟨fun k1=>absurd (.inl k1) k12,fun k1=>⟨fun k2=>absurd (.inr k2) k12,fun k2=>?_⟩⟩
  by_cases k34:es[i].kind = 3∨es[i].kind = 4
  ·rw [if_pos k34] at hT
   rw [hT] at hs
   refine mid (fun hmain=>⟨fun k3=>⟨fun _=>hmain,fun k=>absurd k3 k⟩,fun k3=>⟨fun k4=>hmain,fun k4=>absurd k34 fun h=>h.elim k3 k4⟩⟩) ?_
   refine ⟨by omega,?_⟩
   refine C1.im hP2 (by rfl) (by rfl) ?_
   simp only [tZ,↓un_u,simprocAttr,hwi]
   refine ⟨i + 1,⟨by omega,by omega⟩,by omega,?_⟩
   rw [hs,setI_snoc]
   exact .oA [] []
  ·rw [if_neg k34] at hT
   rw [hT,List.append_nil] at hs
   refine ⟨fun k3=>absurd (.inl k3) k34,fun k3=>⟨fun k4=>absurd (.inr k4) k34,fun _=>?_⟩⟩
   simp only [tZ,↓un_u,simprocAttr,hwi]
   refine ⟨i + 1,⟨by omega,by omega⟩,by omega,?_⟩
   rw [hs]
   exact .oA [] []
 ·have hil:i = B:=by omega
  subst hil
  exact .oA [] []
theorem touchS_len (es:List Edt) (a b:Int):(touchS es a b).length≤es.length:=by
 unfold touchS
 split
 ·simp
 ·have:=set_len (segL es a.toNat b.toNat)
  have:=segL_len es a.toNat b.toNat
  omega
end Go.Proofs
set_option linter.unusedSimpArgs false
set_option linter.unusedVariables false
namespace Go.Proofs
open Go Go.TL
set_option maxRecDepth 4000
set_option maxHeartbeats 8000000
open So
theorem seg_succ {m:List Edt} {i:Nat} (h:i < m.length):(m.take (i + 1)).flatMap touchL = (m.take i).flatMap touchL ++ touchL m[i]:=by
 rw [take_snoc h,List.flatMap_append,List.flatMap_cons,List.flatMap_nil,List.append_nil]
theorem c_source_Touched (es:List Edt) (a b:Int) (hl:es.length≤12):Spc Tryz.prog F_source_Touched [.sl 3 (es.map edtT),vI a,vI b] [] (vIs (touchS es a b)) []:=by
 refine spec_of_ir fn_source_Touched mixm (by simp) fun e _ hst=>W_start ?_
 unfold ir_source_Touched
 refine sW ?_
 refine sD ?_
 refine ⟨fun h=>?_,fun h=>?_⟩
 ·rw [touchS,if_pos (by omega)]
  exact .oA [] []
 rw [touchS,if_neg (by omega)]
 obtain ⟨A,rfl⟩:=Int.eq_ofNat_of_zero_le (show 0≤a by omega)
 obtain ⟨B,rfl⟩:=Int.eq_ofNat_of_zero_le (show 0≤b by omega)
 simp only [Int.toNat_natCast,segL]
 have hml:((es.take B).drop A).length≤12:=by rw [List.length_drop,List.length_take];omega
 have hmm:cutT (A:Int) (B:Int) (es.map edtT) = ((es.take B).drop A).map edtT:=by
  unfold cutT
  simp [List.map_take,List.map_drop]
 refine ⟨by omega,?_⟩
 rw [hmm]
 generalize (es.take B).drop A = m at hml
 rw [List.length_map]
 refine W_loopF mixm (α:=Nat) [7,28] (fun i=>i≤m.length) (fun i=>[(7,.asl 1 ((m.take i).flatMap touchL).length),(28,vI i)]) (fun i=>[(1,.arr 1 (((m.take i).flatMap touchL).map vI) false)]) (fun i=>m.length - i) 0 (by omega) ?_ fun i hi=>?_
 ·exact .oA [(1,none)] []
 have hsl:=seg_len (m.take i)
 rw [List.length_take] at hsl
 refine sD ?_
 refine ⟨fun h2=>?_,fun h2=>?_⟩
 ·have hi2:i < m.length:=by omega
  have hwi:=i64_succ (i:=i) (by omega)
  have hs:=seg_succ hi2
  generalize (m.take i).flatMap touchL = K at hsl hs ⊢
  have hT:touchL m[i] = if m[i].kind = 1∨m[i].kind = 2 then (if 0 < m[i].row.length then [hd m[i].row] else []) else if m[i].kind = 3∨m[i].kind = 4 then [m[i].id] else []:=rfl
  simp only [tZ,↓un_u,simprocAttr,Int.toNat_natCast,getD_mapT hi2,tD,beq_iff_eq,beq_eq_false_iff_ne]
  refine ⟨by omega,?_⟩
  by_cases k12:m[i].kind = 1∨m[i].kind = 2
  ·rw [if_pos k12] at hT
   refine mid (fun hmain=>⟨fun k1=>⟨fun _=>hmain,fun k=>absurd k1 k⟩,fun k1=>⟨fun k2=>hmain,fun k2=>absurd k12 fun h=>h.elim k1 k2⟩⟩) ?_
   refine ⟨fun h4=>?_,fun h4=>?_⟩
   ·have h5:0 < m[i].row.length:=by omega
    rw [if_pos h5] at hT
    rw [hT] at hs
    have hspl:=congrArg List.length hs
    simp only [List.length_append,List.length_cons,List.length_nil] at hspl
    simp only [tZ,↓un_u,simprocAttr,getD_hd h5,hwi]
    refine ⟨by omega,by omega,i + 1,by omega,by omega,?_⟩
    rw [hs]
    exact .oA [(1,some 1)] []
   ·rw [if_neg (by omega)] at hT
    rw [hT,List.append_nil] at hs
    simp only [tZ,↓un_u,simprocAttr,hwi]
    refine ⟨i + 1,by omega,by omega,?_⟩
    rw [hs]
    exact .oA [(1,some 1)] []
  rw [if_neg k12] at hT
  refine ⟨fun k1=>absurd (.inl k1) k12,fun k1=>⟨fun k2=>absurd (.inr k2) k12,fun k2=>?_⟩⟩
  by_cases k34:m[i].kind = 3∨m[i].kind = 4
  ·rw [if_pos k34] at hT
   rw [hT] at hs
   have hspl:=congrArg List.length hs
   simp only [List.length_append,List.length_cons,List.length_nil] at hspl
   refine mid (fun hmain=>⟨fun k3=>⟨fun _=>hmain,fun k=>absurd k3 k⟩,fun k3=>⟨fun k4=>hmain,fun k4=>absurd k34 fun h=>h.elim k3 k4⟩⟩) ?_
   simp only [tZ,↓un_u,simprocAttr,hwi]
   refine ⟨by omega,i + 1,by omega,by omega,?_⟩
   rw [hs]
   exact .oA [(1,some 1)] []
  ·rw [if_neg k34] at hT
   rw [hT,List.append_nil] at hs
   refine ⟨fun k3=>absurd (.inl k3) k34,fun k3=>⟨fun k4=>absurd (.inr k4) k34,fun _=>?_⟩⟩
   simp only [tZ,↓un_u,simprocAttr,hwi]
   refine ⟨i + 1,by omega,by omega,?_⟩
   rw [hs]
   exact .oA [(1,some 1)] []
 ·have hil:i = m.length:=by omega
  rw [hil,List.take_length] at hsl ⊢
  generalize m.flatMap touchL = K at hsl ⊢
  obtain ⟨ys,⟨hp,hso⟩,hsc⟩:=c_slices_Sort_int K (by omega)
  have hpl:=hp.length_eq
  rw [← hpl] at hso
  have hns:cptN eqI2 ys ys.length = setI K:=cpt_ins ltI_ord ltI_tot ltI_trans eqI2_iff hp hso
  have hcm:=c_slices_Compact_int ys (by omega)
  refine C1.upd 1 1 _ _ hsc (by rfl) (by apply imXs_map;intro _;exact ⟨rfl,rfl⟩) (by apply imXs_map;intro _;exact ⟨rfl,rfl⟩) ⟨by simp [ltA,ltC,ltC0,TL.get],trivial⟩ (by rfl) ?_
  refine sW ?_
  rw [← hpl]
  refine C1.cutback 1 73732 1 [] hcm (by rfl) (by apply imXs_map;intro _;exact ⟨rfl,rfl⟩) (by apply imXs_map;intro _;exact ⟨rfl,rfl⟩) (by apply noA_map;intro _;rfl) (by rfl) ?_ (by rfl) ?_
  ·all_goals (try exact clA)
  refine sW ?_
  rw [hns]
  exact .oA [] [73732]
end Go.Proofs
set_option linter.unusedSimpArgs false
set_option linter.unusedVariables false
namespace Go.Proofs
open Go Go.TL
set_option maxRecDepth 4000
set_option maxHeartbeats 8000000
theorem atS_err:∀ {l:List Edt} {s:Src},(atS s l).2≠0→(atS s l).1 = src0
 | [],s,h=>by simp [atS] at h
 | e :: l,s,h=>by
   rw [atS] at h ⊢
   split
   ·rfl
   ·rename_i h1
    rw [if_neg h1] at h
    exact atS_err h
theorem atI_sm {s:Src} (h:SrcOk s) (hg:(s.gone.length:Int)≤s.ver) (l:List Edt) (n:Int):SmS (atI s l n).1:=by
 unfold atI
 split
 ·exact src0_same
 ·by_cases e:(atS s (l.take n.toNat)).2 = 0
  ·exact (atS_ok h hg e).1.same
  ·rw [atS_err e];exact src0_same
theorem c_law04_SourceVersions (l:List UInt8) (raw:Edt) (n1 n2:Int) (hr1:raw.row.length < 4611686018427387904) (hr2:idOk raw.id):Spc Tryz.prog F_law04_SourceVersions [vL l,edtT raw,vI n1,vI n2] [] (vB true) []:=by
 have hl4:(l.take 400).length≤400:=by rw [List.length_take];omega
 obtain ⟨⟨x,a1⟩,⟨hX,ha1⟩,sS⟩:=c_draw_Codes_Source 6 (l.take 400) 0 hl4 (by omega) (by omega)
 dsimp only at hX ha1 sS
 obtain ⟨⟨es,a2⟩,⟨he0,hel,hed,ha2⟩,sE⟩:=c_draw_Codes_EditsO x hX 8 (l.take 400) a1 hl4 ha1 (by omega)
 dsimp only at he0 hel hed ha2 sE
 have hx:=hX.ok
 have hxg:(x.gone.length:Int)≤x.ver:=by rw [hX.gone,hX.ver];simp
 have hdd:∀ d∈es ++ [raw],d.row.length < 4611686018427387904∧idOk d.id:=fun d hd=>by
  rcases List.mem_append.1 hd with hd | hd
  ·exact ⟨by have:=(hed d hd).len;omega,by have:=(hed d hd).id;unfold idOk;omega⟩
  ·rw [List.mem_singleton.1 hd];exact ⟨hr1,hr2⟩
 have hLl:(es ++ [raw]).length = es.length + 1:=by simp
 have hLm:es.map edtT ++ [edtT raw] = (es ++ [raw]).map edtT:=by simp
 obtain ⟨N,hN⟩:∃ N,N = (es ++ [raw]).length:=⟨_,rfl⟩
 have sM1:=c_draw_Mod n1 ((N:Int) + 2) (by omega)
 have sM2:=c_draw_Mod n2 ((N:Int) + 3) (by omega)
 have hM2:=modI_in n2 (m:=(N:Int) + 3) (by omega)
 generalize modI n1 ((N:Int) + 2) = A at sM1
 generalize modI n2 ((N:Int) + 3) = B at sM2 hM2
 have hw1:IntKind.i64.wrap ((N:Int) + 2) = (N:Int) + 2:=IntWalk.i64_in _ (by omega)
 have hw2:IntKind.i64.wrap ((N:Int) + 3) = (N:Int) + 3:=IntWalk.i64_in _ (by omega)
 have hw3:IntKind.i64.wrap (B - 1) = B - 1:=IntWalk.i64_in _ (by omega)
 have hL10:(es ++ [raw]).length≤12:=by omega
 refine spec_of_ir fn_law04_SourceVersions mixm (by simp) fun e _ hst=>W_start ?_
 unfold ir_law04_SourceVersions
 refine sW ?_
 refine C1.newdraw 8196 (c_draw_New l) rfl rfl ?_
 generalize l.take 400 = m at hl4 sS sE ha1 ha2 ⊢
 refine sW ?_
 refine C1.draw 8196 m 0 _ sS rfl rfl rfl ?_
 refine sW ?_
 refine C1.drawF 8196 16392 m a1 a2 sE rfl rfl (by apply imXs_map;intro _;exact ⟨rfl,rfl⟩) rfl ?_
 refine sW ?_
 refine ⟨by omega,by kernel_rfl,?_⟩
 rw [hLm,show es.length + 1 = N by omega]
 generalize es ++ [raw] = L at hdd hLl hN hL10 ⊢
 simp only [tZ,↓un_u,simprocAttr,hw1]
 refine C1.im sM1 (by rfl) (by rfl) ?_
 simp only [tZ,↓un_u,simprocAttr,hw2]
 refine C1.im sM2 (by rfl) (by rfl) ?_
 simp only [tZ,↓un_u,simprocAttr,hw3]
 obtain ⟨V,hV⟩:∃ V,V = [A,B - 1,n2]:=⟨_,rfl⟩
 have hV3:V.length = 3:=by rw [hV];rfl
 refine W_loopF mixm (α:=Nat) [11,47] (fun i=>i≤3) (fun i=>[(11,.sl 3 (L.map edtT)),(47,vI i)]) (fun i=>[(12296,.arr 5 [srcT x] false),(28684,.arr 1 (V.map vI) false)]) (fun i=>3 - i) 0 (by omega) ?_ fun i hi=>?_
 ·rw [hV,hN]
  exact .oA [(12296,some 12296),(28684,some 28684)] [16392]
 refine sD ?_
 refine ⟨fun h2=>?_,fun h2=>?_⟩
 ·have hi2:i < V.length:=by omega
  have hwi:=i64_succ (i:=i) (by omega)
  have sP:=c_source_At x L V[i] hx hdd (by omega)
  have sQ:=c_ref04_At x L V[i] hx.smy (fun d hd=>(hdd d hd).1) (by omega)
  have sM:=c_ref04_Same_self _ (atI_sm hx hxg L V[i])
  simp only [tZ,↓un_u,simprocAttr,Int.toNat_natCast,getD_mapT hi2]
  refine ⟨by omega,by omega,?_⟩
  refine C1.im sP (by rfl) (by rfl) ?_
  refine sW ?_
  refine C1.im sQ (by rfl) (by rfl) ?_
  simp only [tZ,↓un_u,simprocAttr,bne_self_eq_false,Bool.false_or]
  refine C2.im (fun _=>sM) (fun _=>rfl) (by rfl) ?_
  simp only [tZ,↓un_u,simprocAttr,bne_self_eq_false,Bool.false_or,hwi]
  refine ⟨i + 1,by omega,by omega,?_⟩
  exact .oA [(12296,some 12296),(28684,some 28684)] []
 ·have t1:=c_source_Touched L A (B - 1) hL10
  have t2:=c_ref04_Touched L A (B - 1) (by omega)
  have t3:=c_ref01_Ints (touchS L A (B - 1)) (touchS L A (B - 1)) (by have:=touchS_len L A (B - 1);omega)
  have t4:=c_source_Touched L n1 n2 hL10
  have t5:=c_ref04_Touched L n1 n2 (by omega)
  have t6:=c_ref01_Ints (touchS L n1 n2) (touchS L n1 n2) (by have:=touchS_len L n1 n2;omega)
  rw [eqRow_iff.2 rfl] at t3 t6
  refine C1.im t1 (by rfl) (by rfl) ?_
  refine sW ?_
  refine C1.im t2 (by rfl) (by rfl) ?_
  refine sW ?_
  refine C1.im t3 (by rfl) (by rfl) ?_
  refine sW ?_
  refine C2.im (fun _=>t4) (fun _=>rfl) (by rfl) ?_
  refine sW ?_
  refine C2.im (fun _=>t5) (fun _=>rfl) (by rfl) ?_
  refine sW ?_
  refine C2.im (fun _=>t6) (fun _=>rfl) (by rfl) ?_
  refine sW ?_
  refine C2.im (fun _=>c_law04_awake) (fun _=>rfl) (by rfl) ?_
  refine sW ?_
  exact .oA [] []
end Go.Proofs
