import Derived.Test.YtgdfndldfmjfhaaDoorSrtBit
import Derived.Test.YtgdfndldfmjfhaaDoorS29
set_option linter.unusedSimpArgs false
set_option linter.unusedVariables false
namespace Go.Proofs
open Go Go.TL
open Go.TL.So
set_option maxHeartbeats 2000000
def o2_int (xs:List Int) (q:Nat×Nat×Nat):Nat×Nat×Nat:=if ltI (gd xs q.2.1) (gd xs q.1) = true then (q.2.1,q.1,q.2.2 + 1) else q
theorem c_slices_order2Ordered_int (xs:List Int) (a b c:Nat) (ha:a < xs.length) (hb:b < xs.length) (hc:c < 1000) :
 Spc Tryd.prog F_slices_order2Ordered_int [.asl 0 xs.length,vI a,vI b,.ptr 1 1 0 0] [(0,.arr 1 (xs.map vI) false),(1,.arr 1 [vI c] false)] (.tup [vI (o2_int xs (a,b,c)).1,vI (o2_int xs (a,b,c)).2.1]) [(0,.arr 1 (xs.map vI) false),(1,.arr 1 [vI (o2_int xs (a,b,c)).2.2] false)]:=by
 have hwc:=i64_succ (i:=c) (by omega)
 refine spec_of_ir fn_slices_order2Ordered_int mixm (by simp) fun e _ hst=>W_start ?_
 unfold ir_slices_order2Ordered_int
 simp only [tl,tl2,tl4,↓un_u,isCallR,entX,argFr,ret,retI,retB,intT,unT,endR,ressR,resR,tupT,bslR,boxR,lenAll,↓reduceIte,Nat.reduceEqDiff,Nat.reduceAdd,Nat.reduceMul,Nat.reduceLT,Nat.reduceLeDiff,reduceCtorEq,Int.reduceLE,Int.reduceLT,ne_eq,Int.reduceEq,not_false_eq_true,decide_true,decide_false,Int.reduceToNat,tl3,Int.reduceBNe,Int.reduceBEq,rmK,rm1,not_true_eq_false,Int.toNat_natCast,gdT_int ha,gdT_int hb,cellT_int]
 refine ⟨by omega,by omega,by omega,by omega,?_⟩
 refine C1.im (c_cmp_Less_int (gd xs b) (gd xs a)) (by rfl) (by rfl) ?_
 simp only [tl,tl2,tl4,↓un_u,isCallR,entX,argFr,ret,retI,retB,intT,unT,endR,ressR,resR,tupT,bslR,boxR,lenAll,↓reduceIte,Nat.reduceEqDiff,Nat.reduceAdd,Nat.reduceMul,Nat.reduceLT,Nat.reduceLeDiff,reduceCtorEq,Int.reduceLE,Int.reduceLT,ne_eq,Int.reduceEq,not_false_eq_true,decide_true,decide_false,Int.reduceToNat,tl3,Int.reduceBNe,Int.reduceBEq,rmK,rm1,not_true_eq_false,hwc]
 refine ⟨by kernel_rfl,fun h=>?_,fun h=>?_⟩
 ·simp only [o2_int,if_pos h]
  refine .of [(0,some 0),(1,some 1)] [] rfl (by first | rfl | (rw [hst];rfl)) ?_ ?_
  all_goals (try exact clA)
 ·simp only [o2_int,h]
  refine .of [(0,some 0),(1,some 1)] [] rfl (by first | rfl | (rw [hst];rfl)) ?_ ?_
  all_goals (try exact clA)
theorem o2_mem_int (xs:List Int) {a b c n:Nat} (ha:a < n) (hb:b < n):(o2_int xs (a,b,c)).1 < n∧(o2_int xs (a,b,c)).2.1 < n∧(o2_int xs (a,b,c)).2.2≤c + 1:=by
 unfold o2_int
 split
 ·exact ⟨hb,ha,Nat.le_refl _⟩
 ·exact ⟨ha,hb,Nat.le_succ _⟩
theorem o2_ge_int (xs:List Int) {a b c n:Nat} (ha:n≤a) (hb:n≤b):n≤(o2_int xs (a,b,c)).1∧n≤(o2_int xs (a,b,c)).2.1:=by
 unfold o2_int
 split
 ·exact ⟨hb,ha⟩
 ·exact ⟨ha,hb⟩
theorem upd2T_int {st:Sto} {B:List Nat} {i1:Nat} (n:Nat) (ts:List T) (h:imAL ts = true):ltAs st [(0,some 0),(1,some i1)] B (.asl 0 n :: (ts ++ [.ptr i1 1 0 0])) (.asl 0 n :: (ts ++ [.ptr 1 1 0 0])):=by
 refine ⟨by simp [ltA,ltC,ltC0,TL.get],?_⟩
 induction ts with
 | nil=>exact ⟨by simp [ltA,ltC,ltC0,TL.get],trivial⟩
 | cons t ts ih=>
   simp only [imAL,Bool.and_eq_true] at h
   exact ⟨ltA_im h.1,ih h.2⟩
theorem c_slices_medianOrdered_int (xs:List Int) (a b c n lo hi:Nat) (hh:hi≤xs.length) (ha:a < hi) (hb:b < hi) (hc:c < hi) (la:lo≤a) (lb:lo≤b) (lc:lo≤c) (hn:n < 900) :
 ∃ m k:Nat,(m < hi∧lo≤m∧k≤n + 3)∧Spc Tryd.prog F_slices_medianOrdered_int [.asl 0 xs.length,vI a,vI b,vI c,.ptr 1 1 0 0] [(0,.arr 1 (xs.map vI) false),(1,.arr 1 [vI n] false)] (vI m) [(0,.arr 1 (xs.map vI) false),(1,.arr 1 [vI k] false)]:=by
 have s1:=c_slices_order2Ordered_int xs a b n (by omega) (by omega) (by omega)
 obtain ⟨u1,u2,u3⟩:=o2_mem_int xs (c:=n) ha hb
 obtain ⟨l1,l2⟩:=o2_ge_int xs (c:=n) la lb
 generalize o2_int xs (a,b,n) = p at *
 obtain ⟨a1,b1,n1⟩:=p
 dsimp only at u1 u2 u3 l1 l2 s1
 have s2:=c_slices_order2Ordered_int xs b1 c n1 (by omega) (by omega) (by omega)
 obtain ⟨v1,v2,v3⟩:=o2_mem_int xs (c:=n1) u2 hc
 obtain ⟨k1,k2⟩:=o2_ge_int xs (c:=n1) l2 lc
 generalize o2_int xs (b1,c,n1) = p at *
 obtain ⟨b2,c2,n2⟩:=p
 dsimp only at v1 v2 v3 k1 k2 s2
 have s3:=c_slices_order2Ordered_int xs a1 b2 n2 (by omega) (by omega) (by omega)
 obtain ⟨w1,w2,w3⟩:=o2_mem_int xs (c:=n2) u1 v1
 obtain ⟨j1,j2⟩:=o2_ge_int xs (c:=n2) l1 k1
 generalize o2_int xs (a1,b2,n2) = p at *
 obtain ⟨a3,b3,n3⟩:=p
 dsimp only at w1 w2 w3 j1 j2 s3
 refine ⟨b3,n3,⟨w2,j2,by omega⟩,?_⟩
 refine spec_of_ir fn_slices_medianOrdered_int mixm (by simp) fun e _ hst=>W_start ?_
 unfold ir_slices_medianOrdered_int
 refine sW ?_
 refine C1.upd2 1 1 1 _ _ _ _ s1 rfl rfl (by simp) (by apply imXs_map;intro _;exact ⟨rfl,rfl⟩) (by apply imXs_map;intro _;exact ⟨rfl,rfl⟩) (imXs_cons ⟨rfl,rfl⟩ imXs_nil) (imXs_cons ⟨rfl,rfl⟩ imXs_nil) (upd2T_int _ [vI a,vI b] (by rfl)) (by rfl) ?_
 refine sW ?_
 refine C1.upd2 1 1 1 _ _ _ _ s2 rfl rfl (by simp) (by apply imXs_map;intro _;exact ⟨rfl,rfl⟩) (by apply imXs_map;intro _;exact ⟨rfl,rfl⟩) (imXs_cons ⟨rfl,rfl⟩ imXs_nil) (imXs_cons ⟨rfl,rfl⟩ imXs_nil) (upd2T_int _ [vI b1,vI c] (by rfl)) (by rfl) ?_
 refine sW ?_
 refine C1.upd2 1 1 1 _ _ _ _ s3 rfl rfl (by simp) (by apply imXs_map;intro _;exact ⟨rfl,rfl⟩) (by apply imXs_map;intro _;exact ⟨rfl,rfl⟩) (imXs_cons ⟨rfl,rfl⟩ imXs_nil) (imXs_cons ⟨rfl,rfl⟩ imXs_nil) (upd2T_int _ [vI a1,vI b2] (by rfl)) (by rfl) ?_
 refine sW ?_
 refine .of [(0,some 0),(1,some 1)] [] rfl (by first | rfl | (rw [hst];rfl)) ?_ ?_
 all_goals (try exact clA)
theorem c_slices_medianAdjacentOrdered_int (xs:List Int) (a n lo hi:Nat) (hh:hi≤xs.length) (ha:a + 1 < hi) (la:lo < a) (hn:n < 900) (hl:xs.length < 2305843009213693952) :
 ∃ m k:Nat,(m < hi∧lo≤m∧k≤n + 3)∧Spc Tryd.prog F_slices_medianAdjacentOrdered_int [.asl 0 xs.length,vI a,.ptr 1 1 0 0] [(0,.arr 1 (xs.map vI) false),(1,.arr 1 [vI n] false)] (vI m) [(0,.arr 1 (xs.map vI) false),(1,.arr 1 [vI k] false)]:=by
 obtain ⟨m,k,hm,hs⟩:=c_slices_medianOrdered_int xs (a - 1) a (a + 1) n lo hi hh (by omega) (by omega) ha (by omega) (by omega) (by omega) hn
 refine ⟨m,k,hm,?_⟩
 have hwa:=i64_succ (i:=a) (by omega)
 have hwp:IntKind.i64.wrap ((a:Int) - 1) = ((a - 1:Nat):Int):=by rw [IntWalk.i64_in _ (by omega)];omega
 refine spec_of_ir fn_slices_medianAdjacentOrdered_int mixm (by simp) fun e _ hst=>W_start ?_
 unfold ir_slices_medianAdjacentOrdered_int
 simp only [tl,tl2,tl4,↓un_u,isCallR,entX,argFr,ret,retI,retB,intT,unT,endR,ressR,resR,tupT,bslR,boxR,lenAll,↓reduceIte,Nat.reduceEqDiff,Nat.reduceAdd,Nat.reduceMul,Nat.reduceLT,Nat.reduceLeDiff,reduceCtorEq,Int.reduceLE,Int.reduceLT,ne_eq,Int.reduceEq,not_false_eq_true,decide_true,decide_false,Int.reduceToNat,tl3,Int.reduceBNe,Int.reduceBEq,rmK,rm1,not_true_eq_false,hwa,hwp]
 refine C1.upd2 1 1 1 _ _ _ _ hs rfl rfl (by simp) (by apply imXs_map;intro _;exact ⟨rfl,rfl⟩) (by apply imXs_map;intro _;exact ⟨rfl,rfl⟩) (imXs_cons ⟨rfl,rfl⟩ imXs_nil) (imXs_cons ⟨rfl,rfl⟩ imXs_nil) (upd2T_int _ [vI (a - 1:Nat),vI a,vI (a + 1:Nat)] (by rfl)) (by rfl) ?_
 refine sW ?_
 refine .of [(0,some 0),(1,some 1)] [] rfl (by first | rfl | (rw [hst];rfl)) ?_ ?_
 all_goals (try exact clA)
theorem c_slices_choosePivotOrdered_int (xs:List Int) (a b:Nat) (hab:a + 12 < b) (hb:b≤xs.length) (hl:xs.length < 2305843009213693952) :
 ∃ q:Nat×Int,(a≤q.1∧q.1 < b)∧Spc Tryd.prog F_slices_choosePivotOrdered_int [.asl 0 xs.length,vI a,vI b] [(0,.arr 1 (xs.map vI) false)] (.tup [vI q.1,vI q.2]) [(0,.arr 1 (xs.map vI) false)]:=by
 have hw1:IntKind.i64.wrap ((b:Int) - a) = ((b - a:Nat):Int):=by rw [IntWalk.i64_in _ (by omega)];omega
 have hw2:IntKind.i64.wrap (((b - a:Nat):Int).tdiv 4) = (((b - a) / 4:Nat):Int):=by rw [Int.tdiv_eq_ediv_of_nonneg (by omega),IntWalk.i64_in _ (by omega)];omega
 have he1:IntKind.i64.wrap ((((b - a) / 4:Nat):Int) * 1) = (((b - a) / 4:Nat):Int):=by rw [IntWalk.i64_in _ (by omega)];omega
 have he2:IntKind.i64.wrap ((((b - a) / 4:Nat):Int) * 2) = ((2 * ((b - a) / 4):Nat):Int):=by rw [IntWalk.i64_in _ (by omega)];omega
 have he3:IntKind.i64.wrap ((((b - a) / 4:Nat):Int) * 3) = ((3 * ((b - a) / 4):Nat):Int):=by rw [IntWalk.i64_in _ (by omega)];omega
 have ha1:IntKind.i64.wrap ((a:Int) + (((b - a) / 4:Nat):Int)) = ((a + (b - a) / 4:Nat):Int):=by rw [IntWalk.i64_in _ (by omega)];omega
 have ha2:IntKind.i64.wrap ((a:Int) + ((2 * ((b - a) / 4):Nat):Int)) = ((a + 2 * ((b - a) / 4):Nat):Int):=by rw [IntWalk.i64_in _ (by omega)];omega
 have ha3:IntKind.i64.wrap ((a:Int) + ((3 * ((b - a) / 4):Nat):Int)) = ((a + 3 * ((b - a) / 4):Nat):Int):=by rw [IntWalk.i64_in _ (by omega)];omega
 have h8:decide (((b - a:Nat):Int)≥8) = true:=decide_eq_true (by omega)
 have g1:a≤a + (b - a) / 4∧a + (b - a) / 4 < b:=by omega
 have g2:a≤a + 2 * ((b - a) / 4)∧a + 2 * ((b - a) / 4) < b:=by omega
 have g3:a≤a + 3 * ((b - a) / 4)∧a + 3 * ((b - a) / 4) < b:=by omega
 have g4:50≤b - a→a < a + (b - a) / 4∧a + (b - a) / 4 + 1 < b∧a < a + 2 * ((b - a) / 4)∧a + 2 * ((b - a) / 4) + 1 < b∧a < a + 3 * ((b - a) / 4)∧a + 3 * ((b - a) / 4) + 1 < b:=by omega
 generalize a + (b - a) / 4 = p1 at *
 generalize a + 2 * ((b - a) / 4) = p2 at *
 generalize a + 3 * ((b - a) / 4) = p3 at *
 by_cases h50:50≤b - a
 ·have d50:decide (((b - a:Nat):Int)≥50) = true:=decide_eq_true (by omega)
  obtain ⟨q1,q2,q3,q4,q5,q6⟩:=g4 h50
  obtain ⟨m1,n1,⟨r1,r2,r3⟩,s1⟩:=c_slices_medianAdjacentOrdered_int xs p1 0 a b hb q2 q1 (by omega) hl
  obtain ⟨m2,n2,⟨r4,r5,r6⟩,s2⟩:=c_slices_medianAdjacentOrdered_int xs p2 n1 a b hb q4 q3 (by omega) hl
  obtain ⟨m3,n3,⟨r7,r8,r9⟩,s3⟩:=c_slices_medianAdjacentOrdered_int xs p3 n2 a b hb q6 q5 (by omega) hl
  obtain ⟨m,n,⟨t1,t2,t3⟩,s4⟩:=c_slices_medianOrdered_int xs m1 m2 m3 n3 a b hb r1 r4 r7 r2 r5 r8 (by omega)
  refine ⟨(m,if n = 0 then 1 else if n = 12 then 2 else 0),⟨t2,t1⟩,?_⟩
  refine spec_of_ir fn_slices_choosePivotOrdered_int mixm (by simp) fun e _ hst=>W_start ?_
  unfold ir_slices_choosePivotOrdered_int
  simp only [tl,tl2,tl4,↓un_u,isCallR,entX,argFr,ret,retI,retB,intT,unT,endR,ressR,resR,tupT,bslR,boxR,lenAll,↓reduceIte,Nat.reduceEqDiff,Nat.reduceAdd,Nat.reduceMul,Nat.reduceLT,Nat.reduceLeDiff,reduceCtorEq,Int.reduceLE,Int.reduceLT,ne_eq,Int.reduceEq,not_false_eq_true,decide_true,decide_false,Int.reduceToNat,tl3,Int.reduceBNe,Int.reduceBEq,rmK,rm1,not_true_eq_false,hw1,hw2,he1,he2,he3,ha1,ha2,ha3,h8,d50]
  refine C1.upd2 12288 1 1 _ _ _ _ s1 rfl rfl (by simp) (by apply imXs_map;intro _;exact ⟨rfl,rfl⟩) (by apply imXs_map;intro _;exact ⟨rfl,rfl⟩) (imXs_cons ⟨rfl,rfl⟩ imXs_nil) (imXs_cons ⟨rfl,rfl⟩ imXs_nil) (upd2T_int _ [vI p1] (by rfl)) (by rfl) ?_
  refine sW ?_
  refine C1.upd2 12288 1 1 _ _ _ _ s2 rfl rfl (by simp) (by apply imXs_map;intro _;exact ⟨rfl,rfl⟩) (by apply imXs_map;intro _;exact ⟨rfl,rfl⟩) (imXs_cons ⟨rfl,rfl⟩ imXs_nil) (imXs_cons ⟨rfl,rfl⟩ imXs_nil) (upd2T_int _ [vI p2] (by rfl)) (by rfl) ?_
  refine sW ?_
  refine C1.upd2 12288 1 1 _ _ _ _ s3 rfl rfl (by simp) (by apply imXs_map;intro _;exact ⟨rfl,rfl⟩) (by apply imXs_map;intro _;exact ⟨rfl,rfl⟩) (imXs_cons ⟨rfl,rfl⟩ imXs_nil) (imXs_cons ⟨rfl,rfl⟩ imXs_nil) (upd2T_int _ [vI p3] (by rfl)) (by rfl) ?_
  refine sW ?_
  refine C1.upd2 12288 1 1 _ _ _ _ s4 rfl rfl (by simp) (by apply imXs_map;intro _;exact ⟨rfl,rfl⟩) (by apply imXs_map;intro _;exact ⟨rfl,rfl⟩) (imXs_cons ⟨rfl,rfl⟩ imXs_nil) (imXs_cons ⟨rfl,rfl⟩ imXs_nil) (upd2T_int _ [vI m1,vI m2,vI m3] (by rfl)) (by rfl) ?_
  refine sW ?_
  refine ⟨fun h=>?_,fun h=>?_⟩
  ·rw [if_pos (by have:=beq_iff_eq.1 h;omega)]
   refine .of [(0,some 0)] [] rfl (by first | rfl | (rw [hst];rfl)) ?_ ?_
   all_goals (try exact clA)
  ·have hn0:¬ n = 0:=by have:=beq_eq_false_iff_ne.1 h;omega
   rw [if_neg hn0]
   refine ⟨fun h=>?_,fun h=>?_⟩
   ·rw [if_pos (by have:=beq_iff_eq.1 h;omega)]
    refine .of [(0,some 0)] [] rfl (by first | rfl | (rw [hst];rfl)) ?_ ?_
    all_goals (try exact clA)
   ·rw [if_neg (by have:=beq_eq_false_iff_ne.1 h;omega)]
    refine .of [(0,some 0)] [] rfl (by first | rfl | (rw [hst];rfl)) ?_ ?_
    all_goals (try exact clA)
 ·have d50:decide (((b - a:Nat):Int)≥50) = false:=decide_eq_false (by omega)
  obtain ⟨m,n,⟨t1,t2,t3⟩,s4⟩:=c_slices_medianOrdered_int xs p1 p2 p3 0 a b hb g1.2 g2.2 g3.2 g1.1 g2.1 g3.1 (by omega)
  refine ⟨(m,if n = 0 then 1 else if n = 12 then 2 else 0),⟨t2,t1⟩,?_⟩
  refine spec_of_ir fn_slices_choosePivotOrdered_int mixm (by simp) fun e _ hst=>W_start ?_
  unfold ir_slices_choosePivotOrdered_int
  simp only [tl,tl2,tl4,↓un_u,isCallR,entX,argFr,ret,retI,retB,intT,unT,endR,ressR,resR,tupT,bslR,boxR,lenAll,↓reduceIte,Nat.reduceEqDiff,Nat.reduceAdd,Nat.reduceMul,Nat.reduceLT,Nat.reduceLeDiff,reduceCtorEq,Int.reduceLE,Int.reduceLT,ne_eq,Int.reduceEq,not_false_eq_true,decide_true,decide_false,Int.reduceToNat,tl3,Int.reduceBNe,Int.reduceBEq,rmK,rm1,not_true_eq_false,hw1,hw2,he1,he2,he3,ha1,ha2,ha3,h8,d50]
  refine C1.upd2 12288 1 1 _ _ _ _ s4 rfl rfl (by simp) (by apply imXs_map;intro _;exact ⟨rfl,rfl⟩) (by apply imXs_map;intro _;exact ⟨rfl,rfl⟩) (imXs_cons ⟨rfl,rfl⟩ imXs_nil) (imXs_cons ⟨rfl,rfl⟩ imXs_nil) (upd2T_int _ [vI p1,vI p2,vI p3] (by rfl)) (by rfl) ?_
  refine sW ?_
  refine ⟨fun h=>?_,fun h=>?_⟩
  ·rw [if_pos (by have:=beq_iff_eq.1 h;omega)]
   refine .of [(0,some 0)] [] rfl (by first | rfl | (rw [hst];rfl)) ?_ ?_
   all_goals (try exact clA)
  ·have hn0:¬ n = 0:=by have:=beq_eq_false_iff_ne.1 h;omega
   rw [if_neg hn0]
   refine ⟨fun h=>?_,fun h=>?_⟩
   ·rw [if_pos (by have:=beq_iff_eq.1 h;omega)]
    refine .of [(0,some 0)] [] rfl (by first | rfl | (rw [hst];rfl)) ?_ ?_
    all_goals (try exact clA)
   ·rw [if_neg (by have:=beq_eq_false_iff_ne.1 h;omega)]
    refine .of [(0,some 0)] [] rfl (by first | rfl | (rw [hst];rfl)) ?_ ?_
    all_goals (try exact clA)
theorem c_slices_breakPatternsOrdered_int (xs:List Int) (a b:Nat) (hab:a≤b) (hb:b≤xs.length) (hl:xs.length < 65536) :
 ∃ ys,Sw a b xs ys∧Spc Tryd.prog F_slices_breakPatternsOrdered_int [.asl 0 xs.length,vI a,vI b] [(0,.arr 1 (xs.map vI) false)] (.tup []) [(0,.arr 1 (ys.map vI) false)]:=by
 have hw1:IntKind.i64.wrap ((b:Int) - a) = ((b - a:Nat):Int):=by rw [IntWalk.i64_in _ (by omega)];omega
 by_cases h8:8≤b - a
 ·obtain ⟨p,⟨p1,p2⟩,hp⟩:=c_slices_nextPowerOfTwo (b - a) (by omega) (by omega)
  refine ⟨bk a (b - a) p 3 (a + 2 * ((b - a) / 4) - 1) ((b - a:Nat):Int) xs,bk_sw p1 p2 (by omega) 3 _ _ xs (by omega) (by omega) hb,?_⟩
  have d8:decide (((b - a:Nat):Int)≥8) = true:=decide_eq_true (by omega)
  have hu:IntKind.u64.wrap ((b - a:Nat):Int) = ((b - a:Nat):Int):=by rw [IntKind.wrap_u64];omega
  have hw2:IntKind.i64.wrap (((b - a:Nat):Int).tdiv 4) = (((b - a) / 4:Nat):Int):=by rw [Int.tdiv_eq_ediv_of_nonneg (by omega),IntWalk.i64_in _ (by omega)];omega
  have he2:IntKind.i64.wrap ((((b - a) / 4:Nat):Int) * 2) = ((2 * ((b - a) / 4):Nat):Int):=by rw [IntWalk.i64_in _ (by omega)];omega
  have ha2:IntKind.i64.wrap ((a:Int) + ((2 * ((b - a) / 4):Nat):Int)) = ((a + 2 * ((b - a) / 4):Nat):Int):=by rw [IntWalk.i64_in _ (by omega)];omega
  have ha3:IntKind.i64.wrap (((a + 2 * ((b - a) / 4):Nat):Int) - 1) = ((a + 2 * ((b - a) / 4) - 1:Nat):Int):=by rw [IntWalk.i64_in _ (by omega)];omega
  have ha4:IntKind.i64.wrap (((a + 2 * ((b - a) / 4):Nat):Int) + 1) = ((a + 2 * ((b - a) / 4) + 1:Nat):Int):=i64_succ (by omega)
  have hp1:IntKind.u64.wrap ((p:Int) - 1) = (p:Int) - 1:=by rw [IntKind.wrap_u64];omega
  have hj:a≤a + 2 * ((b - a) / 4) - 1∧a + 2 * ((b - a) / 4) + 1 < b∧0 < a + 2 * ((b - a) / 4):=by omega
  refine spec_of_ir fn_slices_breakPatternsOrdered_int mixm (by simp) fun e _ hst=>W_start ?_
  unfold ir_slices_breakPatternsOrdered_int
  simp only [tl,tl2,tl4,↓un_u,isCallR,entX,argFr,ret,retI,retB,intT,unT,endR,ressR,resR,tupT,bslR,boxR,lenAll,↓reduceIte,Nat.reduceEqDiff,Nat.reduceAdd,Nat.reduceMul,Nat.reduceLT,Nat.reduceLeDiff,reduceCtorEq,Int.reduceLE,Int.reduceLT,ne_eq,Int.reduceEq,not_false_eq_true,decide_true,decide_false,Int.reduceToNat,tl3,Int.reduceBNe,Int.reduceBEq,rmK,rm1,not_true_eq_false,hw1,d8,hu]
  refine C1.im hp (by rfl) (by rfl) ?_
  simp only [tl,tl2,tl4,↓un_u,isCallR,entX,argFr,ret,retI,retB,intT,unT,endR,ressR,resR,tupT,bslR,boxR,lenAll,↓reduceIte,Nat.reduceEqDiff,Nat.reduceAdd,Nat.reduceMul,Nat.reduceLT,Nat.reduceLeDiff,reduceCtorEq,Int.reduceLE,Int.reduceLT,ne_eq,Int.reduceEq,not_false_eq_true,decide_true,decide_false,Int.reduceToNat,tl3,Int.reduceBNe,Int.reduceBEq,rmK,rm1,not_true_eq_false,hw2,he2,ha2,ha3]
  generalize a + 2 * ((b - a) / 4) = z at *
  refine W_loopF mixm (α:=List Int×Nat×Int×Nat) [9] (fun q=>q.1.length = xs.length∧q.2.1 + q.2.2.2 = z + 2∧q.2.2.2≤3∧bk a (b - a) p q.2.2.2 q.2.1 q.2.2.1 q.1 = bk a (b - a) p 3 (z - 1) ((b - a:Nat):Int) xs) (fun q=>[(9,vI q.2.1)]) (fun q=>[(0,.arr 1 (q.1.map vI) false),(12296,.arr 1 [vU64 q.2.2.1] false)]) (fun q=>q.2.2.2) (xs,z - 1,((b - a:Nat):Int),3) ⟨rfl,by dsimp only;omega,Nat.le_refl _,rfl⟩ ?_ fun q hq=>?_
  ·refine .of [(0,some 0),(12296,some 12296)] [] rfl (by first | rfl | (rw [hst];rfl)) ?_ ?_
   all_goals (try exact clA)
  obtain ⟨ys,i,v,f⟩:=q
  obtain ⟨g1,g2,g3,g4⟩:=hq
  dsimp only at g1 g2 g3 g4
  simp only [tl,tl2,tl4,↓un_u,isCallR,entX,argFr,ret,retI,retB,intT,unT,endR,ressR,resR,tupT,bslR,boxR,lenAll,↓reduceIte,Nat.reduceEqDiff,Nat.reduceAdd,Nat.reduceMul,Nat.reduceLT,Nat.reduceLeDiff,reduceCtorEq,Int.reduceLE,Int.reduceLT,ne_eq,Int.reduceEq,not_false_eq_true,decide_true,decide_false,Int.reduceToNat,tl3,Int.reduceBNe,Int.reduceBEq,rmK,rm1,not_true_eq_false,decide_eq_true_eq,decide_eq_false_iff_not,hw2,he2,ha2,ha4]
  refine ⟨fun h5=>?_,fun h5=>?_⟩
  ·obtain ⟨f,rfl⟩:∃ k,f = k + 1:=⟨f - 1,by omega⟩
   rw [bk] at g4
   have ho:=oth_lt p1 p2 (by omega) (rnd v)
   have hox:=Eq.refl (oth (b - a) p (rnd v))
   have han:=and_le (rnd v) (m:=(p:Int) - 1) (by omega) (by omega)
   obtain ⟨w,hwd⟩:∃ w:Nat,andI .u64 (rnd v) ((p:Int) - 1) = (w:Int):=⟨_,(Int.toNat_of_nonneg han.1).symm⟩
   rw [hwd] at han
   rw [show oth (b - a) p (rnd v) = if b - a≤w then w - (b - a) else w by unfold oth;rw [hwd,Int.toNat_natCast]] at hox ho g4
   have hwv:IntKind.i64.wrap (w:Int) = (w:Int):=IntWalk.i64_in _ (by omega)
   have hwi:=i64_succ (i:=i) (by omega)
   refine C1.upd 12296 1 _ _ (show Spc _ _ _ _ (vU64 (rnd v)) [(0,.arr 1 [vU64 (rnd v)] false)] from c_slices_xorshift_Next v) (by rfl) (imXs_cons ⟨rfl,rfl⟩ imXs_nil) (imXs_cons ⟨rfl,rfl⟩ imXs_nil) ⟨by simp [ltA,ltC,ltC0,TL.get],trivial⟩ (by rfl) ?_
   have key:∀ o:Nat,o < b - a→IntKind.i64.wrap ((a:Int) + (o:Int)) = ((a + o:Nat):Int):=fun o h=>by rw [IntWalk.i64_in _ (by omega)];omega
   simp only [tl,tl2,tl4,↓un_u,isCallR,entX,argFr,ret,retI,retB,intT,unT,endR,ressR,resR,tupT,bslR,boxR,lenAll,↓reduceIte,Nat.reduceEqDiff,Nat.reduceAdd,Nat.reduceMul,Nat.reduceLT,Nat.reduceLeDiff,reduceCtorEq,Int.reduceLE,Int.reduceLT,ne_eq,Int.reduceEq,not_false_eq_true,decide_true,decide_false,Int.reduceToNat,tl3,Int.reduceBNe,Int.reduceBEq,rmK,rm1,not_true_eq_false,decide_eq_true_eq,decide_eq_false_iff_not,hp1,hwd,hwv]
   refine ⟨fun h6=>?_,fun h6=>?_⟩
   ·rw [if_pos (by omega)] at ho g4
    have hws:IntKind.i64.wrap ((w:Int) - ((b - a:Nat):Int)) = ((w - (b - a):Nat):Int):=by rw [IntWalk.i64_in _ (by omega)];omega
    have hao:=key _ ho
    generalize w - (b - a) = o at *
    have hss:(ys.set i (gd ys (a + o))).length = ys.length:=List.length_set
    have hul:=swp_len ys i (a + o)
    simp only [tl,tl2,tl4,↓un_u,isCallR,entX,argFr,ret,retI,retB,intT,unT,endR,ressR,resR,tupT,bslR,boxR,lenAll,↓reduceIte,Nat.reduceEqDiff,Nat.reduceAdd,Nat.reduceMul,Nat.reduceLT,Nat.reduceLeDiff,reduceCtorEq,Int.reduceLE,Int.reduceLT,ne_eq,Int.reduceEq,not_false_eq_true,decide_true,decide_false,Int.reduceToNat,tl3,Int.reduceBNe,Int.reduceBEq,rmK,rm1,not_true_eq_false,hws,hao,hwi,Int.toNat_natCast,gdT_int (show i < ys.length by omega),gdT_int (show a + o < ys.length by omega),replT_int,cellT_int,setT_int,gdT_int (show a + o < (ys.set i (gd ys (a + o))).length by omega),swpT_int]
    refine ⟨by omega,by omega,by omega,by omega,by omega,by omega,by omega,by omega,by kernel_rfl,(swp ys i (a + o),i + 1,rnd v,f),⟨by dsimp only;omega,by dsimp only;omega,by dsimp only;omega,g4⟩,by dsimp only;omega,?_⟩
    refine .of [(0,some 0),(12296,some 12296)] [] rfl (by first | rfl | (rw [hst];rfl)) ?_ ?_
    all_goals (try exact clA)
   ·rw [if_neg (by omega)] at ho g4
    have hao:=key _ ho
    have hss:(ys.set i (gd ys (a + w))).length = ys.length:=List.length_set
    have hul:=swp_len ys i (a + w)
    simp only [tl,tl2,tl4,↓un_u,isCallR,entX,argFr,ret,retI,retB,intT,unT,endR,ressR,resR,tupT,bslR,boxR,lenAll,↓reduceIte,Nat.reduceEqDiff,Nat.reduceAdd,Nat.reduceMul,Nat.reduceLT,Nat.reduceLeDiff,reduceCtorEq,Int.reduceLE,Int.reduceLT,ne_eq,Int.reduceEq,not_false_eq_true,decide_true,decide_false,Int.reduceToNat,tl3,Int.reduceBNe,Int.reduceBEq,rmK,rm1,not_true_eq_false,hao,hwi,Int.toNat_natCast,gdT_int (show i < ys.length by omega),gdT_int (show a + w < ys.length by omega),replT_int,cellT_int,setT_int,gdT_int (show a + w < (ys.set i (gd ys (a + w))).length by omega),swpT_int]
    refine ⟨by omega,by omega,by omega,by omega,by omega,by omega,by omega,by omega,by kernel_rfl,(swp ys i (a + w),i + 1,rnd v,f),⟨by dsimp only;omega,by dsimp only;omega,by dsimp only;omega,g4⟩,by dsimp only;omega,?_⟩
    refine .of [(0,some 0),(12296,some 12296)] [] rfl (by first | rfl | (rw [hst];rfl)) ?_ ?_
    all_goals (try exact clA)
  ·obtain rfl:f = 0:=by omega
   rw [bk] at g4
   rw [← g4]
   refine .of [(0,some 0)] [] rfl (by first | rfl | (rw [hst];rfl)) ?_ ?_
   all_goals (try exact clA)
 ·refine ⟨xs,.refl xs,?_⟩
  have d8:decide (((b - a:Nat):Int)≥8) = false:=decide_eq_false (by omega)
  refine spec_of_ir fn_slices_breakPatternsOrdered_int mixm (by simp) fun e _ hst=>W_start ?_
  unfold ir_slices_breakPatternsOrdered_int
  simp only [tl,tl2,tl4,↓un_u,isCallR,entX,argFr,ret,retI,retB,intT,unT,endR,ressR,resR,tupT,bslR,boxR,lenAll,↓reduceIte,Nat.reduceEqDiff,Nat.reduceAdd,Nat.reduceMul,Nat.reduceLT,Nat.reduceLeDiff,reduceCtorEq,Int.reduceLE,Int.reduceLT,ne_eq,Int.reduceEq,not_false_eq_true,decide_true,decide_false,Int.reduceToNat,tl3,Int.reduceBNe,Int.reduceBEq,rmK,rm1,not_true_eq_false,hw1,d8]
  refine .of [(0,some 0)] [] rfl (by first | rfl | (rw [hst];rfl)) ?_ ?_
  all_goals (try exact clA)
end Go.Proofs
