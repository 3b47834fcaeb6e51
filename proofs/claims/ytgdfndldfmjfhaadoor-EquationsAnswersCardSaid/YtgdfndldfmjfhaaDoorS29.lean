import Derived.Test.YtgdfndldfmjfhaaDoorSrtInt
set_option linter.unusedSimpArgs false
set_option linter.unusedVariables false
namespace Go.Proofs
open Go Go.TL
open Go.TL.So
set_option maxHeartbeats 2000000
theorem gdT_int {xs:List Int} {i:Nat} (h:i < xs.length):(xs.map vI).getD i .junk = vI (gd xs i):=by rw [gd_get h];exact getD_mapT h
theorem replT_int (x y:Int):repl (vI x) 0 (vI y) = vI y:=rfl
theorem cellT_int (x:Int):(vI x).cells.getD 0 .junk = vI x:=rfl
theorem setT_int (xs:List Int) (i:Nat) (v:Int):(xs.map vI).set i (vI v) = (xs.set i v).map vI:=List.map_set.symm
theorem swpT_int (xs:List Int) (i j:Nat):((xs.set i (gd xs j)).set j (gd xs i)) = swp xs i j:=rfl
theorem c_slices_insertionSortOrdered_int (xs:List Int) (a b:Nat) (hab:a≤b) (hb:b≤xs.length) (hl:xs.length < 4611686018427387904) :
 Spc Tryd.prog F_slices_insertionSortOrdered_int [.asl 0 xs.length,vI a,vI b] [(0,.arr 1 (xs.map vI) false)] (.tup []) [(0,.arr 1 ((insS ltI xs a b).map vI) false)]:=by
 have hw:=i64_succ (i:=a) (by omega)
 refine spec_of_ir fn_slices_insertionSortOrdered_int mixm (by simp) fun e _ hst=>W_start ?_
 unfold ir_slices_insertionSortOrdered_int
 simp only [tl,tl2,tl4,↓un_u,isCallR,entX,argFr,ret,retI,retB,intT,unT,endR,ressR,resR,tupT,bslR,boxR,lenAll,↓reduceIte,Nat.reduceEqDiff,Nat.reduceAdd,Nat.reduceMul,Nat.reduceLT,Nat.reduceLeDiff,reduceCtorEq,Int.reduceLE,Int.reduceLT,ne_eq,Int.reduceEq,not_false_eq_true,decide_true,decide_false,Int.reduceToNat,tl3,Int.reduceBNe,Int.reduceBEq,rmK,rm1,not_true_eq_false,hw]
 refine W_loopF mixm (α:=List Int×Nat) [6] (fun q=>q.1.length = xs.length∧a + 1≤q.2∧(q.2≤b∨q.2 = a + 1)∧insF ltI a (b - q.2) q.2 q.1 = insS ltI xs a b) (fun q=>[(6,vI q.2)]) (fun q=>[(0,.arr 1 (q.1.map vI) false)]) (fun q=>b - q.2) (xs,a + 1) ⟨rfl,Nat.le_refl _,.inr rfl,rfl⟩ ?_ fun q hq=>?_
 ·refine .of [(0,some 0)] [] rfl (by first | rfl | (rw [hst];rfl)) ?_ ?_
  all_goals (try exact clA)
 obtain ⟨ys,i⟩:=q
 obtain ⟨h1,h2,h3,h4⟩:=hq
 dsimp only at h1 h2 h3 h4
 simp only [tl,tl2,tl4,↓un_u,isCallR,entX,argFr,ret,retI,retB,intT,unT,endR,ressR,resR,tupT,bslR,boxR,lenAll,↓reduceIte,Nat.reduceEqDiff,Nat.reduceAdd,Nat.reduceMul,Nat.reduceLT,Nat.reduceLeDiff,reduceCtorEq,Int.reduceLE,Int.reduceLT,ne_eq,Int.reduceEq,not_false_eq_true,decide_true,decide_false,Int.reduceToNat,tl3,Int.reduceBNe,Int.reduceBEq,rmK,rm1,not_true_eq_false,decide_eq_true_eq,decide_eq_false_iff_not]
 refine ⟨fun h5=>?_,fun h5=>?_⟩
 ·have hi2:i < b:=by omega
  rw [show b - i = (b - (i + 1)) + 1 by omega,insF] at h4
  refine W_loopF mixm (α:=List Int×Nat) [7] (fun q=>q.1.length = xs.length∧a≤q.2∧q.2≤i∧insJ ltI a q.2 q.1 = insJ ltI a i ys) (fun q=>[(7,vI q.2)]) (fun q=>[(0,.arr 1 (q.1.map vI) false)]) (fun q=>q.2) (ys,i) ⟨h1,by omega,Nat.le_refl _,rfl⟩ ?_ fun q hq=>?_
  ·refine .of [(0,some 0)] [] rfl (by first | rfl | (rw [hst];rfl)) ?_ ?_
   all_goals (try exact clA)
  obtain ⟨zs,j⟩:=q
  obtain ⟨g1,g2,g3,g4⟩:=hq
  dsimp only at g1 g2 g3 g4
  by_cases hj:a < j
  ·obtain ⟨j,rfl⟩:∃ k,j = k + 1:=⟨j - 1,by omega⟩
   have hwj:IntKind.i64.wrap (((j + 1:Nat):Int) - 1) = (j:Int):=by rw [IntWalk.i64_in _ (by omega)];omega
   have hd:decide (((j + 1:Nat):Int) > a) = true:=by simp;omega
   simp only [tl,tl2,tl4,↓un_u,isCallR,entX,argFr,ret,retI,retB,intT,unT,endR,ressR,resR,tupT,bslR,boxR,lenAll,↓reduceIte,Nat.reduceEqDiff,Nat.reduceAdd,Nat.reduceMul,Nat.reduceLT,Nat.reduceLeDiff,reduceCtorEq,Int.reduceLE,Int.reduceLT,ne_eq,Int.reduceEq,not_false_eq_true,decide_true,decide_false,Int.reduceToNat,tl3,Int.reduceBNe,Int.reduceBEq,rmK,rm1,not_true_eq_false,hwj,hd,Int.toNat_natCast,gdT_int (show j < zs.length by omega),gdT_int (show j + 1 < zs.length by omega)]
   refine ⟨⟨g1,by omega,by omega⟩,⟨g1,by omega⟩,⟨g1,by omega,by omega⟩,⟨g1,by omega⟩,?_⟩
   refine C2.one (by trivial) (C1.im (c_cmp_Less_int (gd zs (j + 1)) (gd zs j)) (by rfl) (by rfl) ?_)
   have hsl:(zs.set (j + 1) (gd zs j)).length = zs.length:=List.length_set
   simp only [tl,tl2,tl4,↓un_u,isCallR,entX,argFr,ret,retI,retB,intT,unT,endR,ressR,resR,tupT,bslR,boxR,lenAll,↓reduceIte,Nat.reduceEqDiff,Nat.reduceAdd,Nat.reduceMul,Nat.reduceLT,Nat.reduceLeDiff,reduceCtorEq,Int.reduceLE,Int.reduceLT,ne_eq,Int.reduceEq,not_false_eq_true,decide_true,decide_false,Int.reduceToNat,tl3,Int.reduceBNe,Int.reduceBEq,rmK,rm1,not_true_eq_false,hwj,Int.toNat_natCast,gdT_int (show j < zs.length by omega),gdT_int (show j + 1 < zs.length by omega),replT_int,cellT_int,setT_int,gdT_int (show j < (zs.set (j + 1) (gd zs j)).length by omega),swpT_int]
   have hin:insJ ltI a (j + 1) zs = if a < j + 1∧ltI (gd zs (j + 1)) (gd zs j) = true then insJ ltI a j (swp zs (j + 1) j) else zs:=rfl
   refine ⟨by kernel_rfl,fun h6=>?_,fun h6=>?_⟩
   ·refine ⟨⟨g1,by omega,by omega⟩,⟨g1,by omega⟩,⟨g1,by omega,by omega⟩,⟨g1,by omega⟩,⟨g1,by omega,by omega⟩,⟨g1,by omega⟩,⟨by omega,by omega,by omega⟩,⟨by omega,by omega⟩,by kernel_rfl,(swp zs (j + 1) j,j),⟨by dsimp only;rw [swp_len];exact g1,by dsimp only;omega,by dsimp only;omega,?_⟩,by dsimp only;omega,?_⟩
    ·rw [← g4,hin,if_pos ⟨hj,h6⟩]
    ·refine .of [(0,some 0)] [] rfl (by first | rfl | (rw [hst];rfl)) ?_ ?_
     all_goals (try exact clA)
   ·rw [hin,if_neg (fun e=>by rw [h6] at e;exact absurd e.2 (by simp))] at g4
    have hwi:=i64_succ (i:=i) (by omega)
    refine ⟨(zs,i + 1),⟨g1,by dsimp only;omega,by dsimp only;omega,?_⟩,by dsimp only;omega,?_⟩
    ·dsimp only;rw [g4];exact h4
    ·rw [hwi]
     refine .of [(0,some 0)] [] rfl (by first | rfl | (rw [hst];rfl)) ?_ ?_
     all_goals (try exact clA)
  ·have hd:decide ((j:Int) > a) = false:=by simp;omega
   have hwi:=i64_succ (i:=i) (by omega)
   have hin:insJ ltI a j zs = zs:=by
    cases j with
    | zero=>rfl
    | succ j=>unfold insJ;rw [if_neg (fun e=>hj e.1)]
   rw [hin] at g4
   simp only [tl,tl2,tl4,↓un_u,isCallR,entX,argFr,ret,retI,retB,intT,unT,endR,ressR,resR,tupT,bslR,boxR,lenAll,↓reduceIte,Nat.reduceEqDiff,Nat.reduceAdd,Nat.reduceMul,Nat.reduceLT,Nat.reduceLeDiff,reduceCtorEq,Int.reduceLE,Int.reduceLT,ne_eq,Int.reduceEq,not_false_eq_true,decide_true,decide_false,Int.reduceToNat,tl3,Int.reduceBNe,Int.reduceBEq,rmK,rm1,not_true_eq_false,hd,hwi]
   refine C2.no (fun h=>h) ?_
   simp only [tl,tl2,tl4,↓un_u,isCallR,entX,argFr,ret,retI,retB,intT,unT,endR,ressR,resR,tupT,bslR,boxR,lenAll,↓reduceIte,Nat.reduceEqDiff,Nat.reduceAdd,Nat.reduceMul,Nat.reduceLT,Nat.reduceLeDiff,reduceCtorEq,Int.reduceLE,Int.reduceLT,ne_eq,Int.reduceEq,not_false_eq_true,decide_true,decide_false,Int.reduceToNat,tl3,Int.reduceBNe,Int.reduceBEq,rmK,rm1,not_true_eq_false,hwi]
   refine ⟨by kernel_rfl,(zs,i + 1),⟨g1,by dsimp only;omega,by dsimp only;omega,?_⟩,by dsimp only;omega,?_⟩
   ·dsimp only;rw [g4];exact h4
   ·refine .of [(0,some 0)] [] rfl (by first | rfl | (rw [hst];rfl)) ?_ ?_
    all_goals (try exact clA)
 ·rw [show b - i = 0 by omega,insF] at h4
  rw [← h4]
  refine .of [(0,some 0)] [] rfl (by first | rfl | (rw [hst];rfl)) ?_ ?_
  all_goals (try exact clA)
theorem c_slices_reverseRangeOrdered_int (xs:List Int) (a b:Nat) (hab:a < b) (hb:b≤xs.length) (hl:xs.length < 4611686018427387904) :
 Spc Tryd.prog F_slices_reverseRangeOrdered_int [.asl 0 xs.length,vI a,vI b] [(0,.arr 1 (xs.map vI) false)] (.tup []) [(0,.arr 1 ((rvs (b - a) a (b - 1) xs).map vI) false)]:=by
 have hw:IntKind.i64.wrap ((b:Int) - 1) = ((b - 1:Nat):Int):=by rw [IntWalk.i64_in _ (by omega)];omega
 refine spec_of_ir fn_slices_reverseRangeOrdered_int mixm (by simp) fun e _ hst=>W_start ?_
 unfold ir_slices_reverseRangeOrdered_int
 simp only [tl,tl2,tl4,↓un_u,isCallR,entX,argFr,ret,retI,retB,intT,unT,endR,ressR,resR,tupT,bslR,boxR,lenAll,↓reduceIte,Nat.reduceEqDiff,Nat.reduceAdd,Nat.reduceMul,Nat.reduceLT,Nat.reduceLeDiff,reduceCtorEq,Int.reduceLE,Int.reduceLT,ne_eq,Int.reduceEq,not_false_eq_true,decide_true,decide_false,Int.reduceToNat,tl3,Int.reduceBNe,Int.reduceBEq,rmK,rm1,not_true_eq_false,hw]
 refine W_loopF mixm (α:=List Int×Nat×Nat×Nat) [6,7] (fun q=>q.1.length = xs.length∧q.2.2.1 < b∧q.2.2.1 + 1≤q.2.1 + q.2.2.2∧rvs q.2.2.2 q.2.1 q.2.2.1 q.1 = rvs (b - a) a (b - 1) xs) (fun q=>[(6,vI q.2.1),(7,vI q.2.2.1)]) (fun q=>[(0,.arr 1 (q.1.map vI) false)]) (fun q=>q.2.2.2) (xs,a,b - 1,b - a) ⟨rfl,by dsimp only;omega,by dsimp only;omega,rfl⟩ ?_ fun q hq=>?_
 ·refine .of [(0,some 0)] [] rfl (by first | rfl | (rw [hst];rfl)) ?_ ?_
  all_goals (try exact clA)
 obtain ⟨ys,i,j,f⟩:=q
 obtain ⟨h1,h2,h3,h4⟩:=hq
 dsimp only at h1 h2 h3 h4
 simp only [tl,tl2,tl4,↓un_u,isCallR,entX,argFr,ret,retI,retB,intT,unT,endR,ressR,resR,tupT,bslR,boxR,lenAll,↓reduceIte,Nat.reduceEqDiff,Nat.reduceAdd,Nat.reduceMul,Nat.reduceLT,Nat.reduceLeDiff,reduceCtorEq,Int.reduceLE,Int.reduceLT,ne_eq,Int.reduceEq,not_false_eq_true,decide_true,decide_false,Int.reduceToNat,tl3,Int.reduceBNe,Int.reduceBEq,rmK,rm1,not_true_eq_false,decide_eq_true_eq,decide_eq_false_iff_not]
 refine ⟨fun h5=>?_,fun h5=>?_⟩
 ·obtain ⟨f,rfl⟩:∃ k,f = k + 1:=⟨f - 1,by omega⟩
  have hwi:=i64_succ (i:=i) (by omega)
  have hwj:IntKind.i64.wrap ((j:Int) - 1) = ((j - 1:Nat):Int):=by rw [IntWalk.i64_in _ (by omega)];omega
  have hsl:(ys.set i (gd ys j)).length = ys.length:=List.length_set
  rw [rvs,if_pos (by omega)] at h4
  simp only [tl,tl2,tl4,↓un_u,isCallR,entX,argFr,ret,retI,retB,intT,unT,endR,ressR,resR,tupT,bslR,boxR,lenAll,↓reduceIte,Nat.reduceEqDiff,Nat.reduceAdd,Nat.reduceMul,Nat.reduceLT,Nat.reduceLeDiff,reduceCtorEq,Int.reduceLE,Int.reduceLT,ne_eq,Int.reduceEq,not_false_eq_true,decide_true,decide_false,Int.reduceToNat,tl3,Int.reduceBNe,Int.reduceBEq,rmK,rm1,not_true_eq_false,hwi,hwj,Int.toNat_natCast,gdT_int (show j < ys.length by omega),gdT_int (show i < ys.length by omega),replT_int,cellT_int,setT_int,gdT_int (show j < (ys.set i (gd ys j)).length by omega),swpT_int]
  refine ⟨⟨h1,by omega,by omega⟩,⟨h1,by omega⟩,⟨h1,by omega,by omega⟩,⟨h1,by omega⟩,⟨h1,by omega,by omega⟩,⟨h1,by omega⟩,⟨by omega,by omega,by omega⟩,⟨by omega,by omega⟩,by kernel_rfl,(swp ys i j,i + 1,j - 1,f),⟨by dsimp only;rw [swp_len];exact h1,by dsimp only;omega,by dsimp only;omega,h4⟩,by dsimp only;omega,?_⟩
  refine .of [(0,some 0)] [] rfl (by first | rfl | (rw [hst];rfl)) ?_ ?_
  all_goals (try exact clA)
 ·have h6:rvs f i j ys = ys:=by
   cases f with
   | zero=>rfl
   | succ f=>unfold rvs;rw [if_neg (by omega)]
  rw [← h4,h6]
  refine .of [(0,some 0)] [] rfl (by first | rfl | (rw [hst];rfl)) ?_ ?_
  all_goals (try exact clA)
theorem c_slices_siftDownOrdered_int (xs:List Int) (lo hi first:Nat) (hh:first + hi≤xs.length) (hlo:lo≤hi + 1) (hl:xs.length < 2305843009213693952) :
 Spc Tryd.prog F_slices_siftDownOrdered_int [.asl 0 xs.length,vI lo,vI hi,vI first] [(0,.arr 1 (xs.map vI) false)] (.tup []) [(0,.arr 1 ((sift ltI first hi (hi + 1) lo xs).map vI) false)]:=by
 refine spec_of_ir fn_slices_siftDownOrdered_int mixm (by simp) fun e _ hst=>W_start ?_
 unfold ir_slices_siftDownOrdered_int
 refine sW ?_
 refine W_loopF mixm (α:=List Int×Nat×Nat) [8] (fun q=>q.1.length = xs.length∧q.2.1≤hi + 1∧hi + 1≤q.2.1 + q.2.2∧sift ltI first hi q.2.2 q.2.1 q.1 = sift ltI first hi (hi + 1) lo xs) (fun q=>[(8,vI q.2.1)]) (fun q=>[(0,.arr 1 (q.1.map vI) false)]) (fun q=>q.2.2) (xs,lo,hi + 1) ⟨rfl,hlo,by dsimp only;omega,rfl⟩ ?_ fun q hq=>?_
 ·refine .of [(0,some 0)] [] rfl (by first | rfl | (rw [hst];rfl)) ?_ ?_
  all_goals (try exact clA)
 obtain ⟨ys,r,f⟩:=q
 obtain ⟨h1,h2,h3,h4⟩:=hq
 dsimp only at h1 h2 h3 h4
 have hw1:IntKind.i64.wrap (2 * (r:Int)) = 2 * (r:Int):=IntWalk.i64_in _ (by omega)
 have hw2:IntKind.i64.wrap (2 * (r:Int) + 1) = ((2 * r + 1:Nat):Int):=by rw [IntWalk.i64_in _ (by omega)];omega
 simp only [tl,tl2,tl4,↓un_u,isCallR,entX,argFr,ret,retI,retB,intT,unT,endR,ressR,resR,tupT,bslR,boxR,lenAll,↓reduceIte,Nat.reduceEqDiff,Nat.reduceAdd,Nat.reduceMul,Nat.reduceLT,Nat.reduceLeDiff,reduceCtorEq,Int.reduceLE,Int.reduceLT,ne_eq,Int.reduceEq,not_false_eq_true,decide_true,decide_false,Int.reduceToNat,tl3,Int.reduceBNe,Int.reduceBEq,rmK,rm1,not_true_eq_false,decide_eq_true_eq,decide_eq_false_iff_not,hw1,hw2]
 refine ⟨fun h5=>?_,fun h5=>?_⟩
 ·have h6:sift ltI first hi f r ys = ys:=by
   cases f with
   | zero=>rfl
   | succ f=>unfold sift;rw [if_pos (by omega)]
  rw [← h4,h6]
  refine .of [(0,some 0)] [] rfl (by first | rfl | (rw [hst];rfl)) ?_ ?_
  all_goals (try exact clA)
 ·obtain ⟨f,rfl⟩:∃ k,f = k + 1:=⟨f - 1,by omega⟩
  rw [sift,if_neg (by omega)] at h4
  have hc:=kid_ch ltI ys (first:=first) (hi:=hi) (r:=r) (by omega)
  have hw3:IntKind.i64.wrap (((2 * r + 1:Nat):Int) + 1) = ((2 * r + 2:Nat):Int):=by rw [IntWalk.i64_in _ (by omega)];omega
  have hw4:IntKind.i64.wrap ((first:Int) + ((2 * r + 1:Nat):Int)) = ((first + (2 * r + 1):Nat):Int):=by rw [IntWalk.i64_in _ (by omega)];omega
  have hw5:IntKind.i64.wrap (((first + (2 * r + 1):Nat):Int) + 1) = ((first + (2 * r + 2):Nat):Int):=by rw [IntWalk.i64_in _ (by omega)];omega
  have hw6:IntKind.i64.wrap ((first:Int) + (r:Int)) = ((first + r:Nat):Int):=by rw [IntWalk.i64_in _ (by omega)];omega
  have hw7:IntKind.i64.wrap ((first:Int) + ((2 * r + 2:Nat):Int)) = ((first + (2 * r + 2):Nat):Int):=by rw [IntWalk.i64_in _ (by omega)];omega
  have k1:2 * r + 2 < hi→ltI (gd ys (first + (2 * r + 1))) (gd ys (first + (2 * r + 2))) = true→kid ltI ys first hi r = 2 * r + 2:=fun a b=>by rw [kid,if_pos ⟨a,b⟩]
  have k2:¬ (2 * r + 2 < hi∧ltI (gd ys (first + (2 * r + 1))) (gd ys (first + (2 * r + 2))) = true)→kid ltI ys first hi r = 2 * r + 1:=fun a=>by rw [kid,if_neg a]
  by_cases hk:2 * r + 2 < hi
  ·have hd:(((2 * r + 2:Nat):Int) < (hi:Int)) = True:=by simp;omega
   simp only [tl,tl2,tl4,↓un_u,isCallR,entX,argFr,ret,retI,retB,intT,unT,endR,ressR,resR,tupT,bslR,boxR,lenAll,↓reduceIte,Nat.reduceEqDiff,Nat.reduceAdd,Nat.reduceMul,Nat.reduceLT,Nat.reduceLeDiff,reduceCtorEq,Int.reduceLE,Int.reduceLT,ne_eq,Int.reduceEq,not_false_eq_true,decide_true,decide_false,Int.reduceToNat,tl3,Int.reduceBNe,Int.reduceBEq,rmK,rm1,not_true_eq_false,hw3,hw4,hw5,hd,Int.toNat_natCast,gdT_int (show first + (2 * r + 1) < ys.length by omega),gdT_int (show first + (2 * r + 2) < ys.length by omega),cellT_int]
   refine ⟨⟨h1,by omega,by omega⟩,⟨h1,by omega⟩,⟨h1,by omega,by omega⟩,⟨h1,by omega⟩,?_⟩
   refine C2.one (by trivial) (C1.im (c_cmp_Less_int (gd ys (first + (2 * r + 1))) (gd ys (first + (2 * r + 2)))) (by rfl) (by rfl) ?_)
   refine sW ?_
   refine ⟨by kernel_rfl,fun h6=>?_,fun h6=>?_⟩
   ·skip
    have hkc:kid ltI ys first hi r = 2 * r + 2:=k1 hk h6
    rw [hkc] at h4 hc
    have hcl:2 * r + 2 < hi:=hc.2
    have hsl:(ys.set (first + r) (gd ys (first + (2 * r + 2)))).length = ys.length:=List.length_set
    simp only [tl,tl2,tl4,↓un_u,isCallR,entX,argFr,ret,retI,retB,intT,unT,endR,ressR,resR,tupT,bslR,boxR,lenAll,↓reduceIte,Nat.reduceEqDiff,Nat.reduceAdd,Nat.reduceMul,Nat.reduceLT,Nat.reduceLeDiff,reduceCtorEq,Int.reduceLE,Int.reduceLT,ne_eq,Int.reduceEq,not_false_eq_true,decide_true,decide_false,Int.reduceToNat,tl3,Int.reduceBNe,Int.reduceBEq,rmK,rm1,not_true_eq_false,hw3,hw7,hw6,Int.toNat_natCast,gdT_int (show first + r < ys.length by omega),gdT_int (show first + (2 * r + 2) < ys.length by omega),cellT_int]
    refine ⟨⟨h1,by omega,by omega⟩,⟨h1,by omega⟩,⟨h1,by omega,by omega⟩,⟨h1,by omega⟩,?_⟩
    refine C1.im (c_cmp_Less_int (gd ys (first + r)) (gd ys (first + (2 * r + 2)))) (by rfl) (by rfl) ?_
    simp only [tl,tl2,tl4,↓un_u,isCallR,entX,argFr,ret,retI,retB,intT,unT,endR,ressR,resR,tupT,bslR,boxR,lenAll,↓reduceIte,Nat.reduceEqDiff,Nat.reduceAdd,Nat.reduceMul,Nat.reduceLT,Nat.reduceLeDiff,reduceCtorEq,Int.reduceLE,Int.reduceLT,ne_eq,Int.reduceEq,not_false_eq_true,decide_true,decide_false,Int.reduceToNat,tl3,Int.reduceBNe,Int.reduceBEq,rmK,rm1,not_true_eq_false,hw3,hw7,hw6,Int.toNat_natCast,gdT_int (show first + r < ys.length by omega),gdT_int (show first + (2 * r + 2) < ys.length by omega),cellT_int,replT_int,setT_int,gdT_int (show first + (2 * r + 2) < (ys.set (first + r) (gd ys (first + (2 * r + 2)))).length by omega),swpT_int,Bool.not_eq_true',Bool.not_eq_false']
    refine ⟨by kernel_rfl,fun h7=>?_,fun h7=>?_⟩
    ·rw [if_pos h7] at h4
     rw [← h4]
     refine .of [(0,some 0)] [] rfl (by first | rfl | (rw [hst];rfl)) ?_ ?_
     all_goals (try exact clA)
    ·rw [if_neg (by rw [h7];simp)] at h4
     refine ⟨⟨h1,by omega,by omega⟩,⟨h1,by omega⟩,⟨h1,by omega,by omega⟩,⟨h1,by omega⟩,⟨h1,by omega,by omega⟩,⟨h1,by omega⟩,⟨by omega,by omega,by omega⟩,⟨by omega,by omega⟩,by kernel_rfl,(swp ys (first + r) (first + (2 * r + 2)),2 * r + 2,f),⟨by dsimp only;rw [swp_len];exact h1,by dsimp only;omega,by dsimp only;omega,h4⟩,by dsimp only;omega,?_⟩
     refine .of [(0,some 0)] [] rfl (by first | rfl | (rw [hst];rfl)) ?_ ?_
     all_goals (try exact clA)
   ·skip
    have hkc:kid ltI ys first hi r = 2 * r + 1:=k2 (fun e=>by rw [h6] at e;exact absurd e.2 (by simp))
    rw [hkc] at h4 hc
    have hcl:2 * r + 1 < hi:=hc.2
    have hsl:(ys.set (first + r) (gd ys (first + (2 * r + 1)))).length = ys.length:=List.length_set
    simp only [tl,tl2,tl4,↓un_u,isCallR,entX,argFr,ret,retI,retB,intT,unT,endR,ressR,resR,tupT,bslR,boxR,lenAll,↓reduceIte,Nat.reduceEqDiff,Nat.reduceAdd,Nat.reduceMul,Nat.reduceLT,Nat.reduceLeDiff,reduceCtorEq,Int.reduceLE,Int.reduceLT,ne_eq,Int.reduceEq,not_false_eq_true,decide_true,decide_false,Int.reduceToNat,tl3,Int.reduceBNe,Int.reduceBEq,rmK,rm1,not_true_eq_false,hw4,hw6,Int.toNat_natCast,gdT_int (show first + r < ys.length by omega),gdT_int (show first + (2 * r + 1) < ys.length by omega),cellT_int]
    refine ⟨⟨h1,by omega,by omega⟩,⟨h1,by omega⟩,⟨h1,by omega,by omega⟩,⟨h1,by omega⟩,?_⟩
    refine C1.im (c_cmp_Less_int (gd ys (first + r)) (gd ys (first + (2 * r + 1)))) (by rfl) (by rfl) ?_
    simp only [tl,tl2,tl4,↓un_u,isCallR,entX,argFr,ret,retI,retB,intT,unT,endR,ressR,resR,tupT,bslR,boxR,lenAll,↓reduceIte,Nat.reduceEqDiff,Nat.reduceAdd,Nat.reduceMul,Nat.reduceLT,Nat.reduceLeDiff,reduceCtorEq,Int.reduceLE,Int.reduceLT,ne_eq,Int.reduceEq,not_false_eq_true,decide_true,decide_false,Int.reduceToNat,tl3,Int.reduceBNe,Int.reduceBEq,rmK,rm1,not_true_eq_false,hw4,hw6,Int.toNat_natCast,gdT_int (show first + r < ys.length by omega),gdT_int (show first + (2 * r + 1) < ys.length by omega),cellT_int,replT_int,setT_int,gdT_int (show first + (2 * r + 1) < (ys.set (first + r) (gd ys (first + (2 * r + 1)))).length by omega),swpT_int,Bool.not_eq_true',Bool.not_eq_false']
    refine ⟨by kernel_rfl,fun h7=>?_,fun h7=>?_⟩
    ·rw [if_pos h7] at h4
     rw [← h4]
     refine .of [(0,some 0)] [] rfl (by first | rfl | (rw [hst];rfl)) ?_ ?_
     all_goals (try exact clA)
    ·rw [if_neg (by rw [h7];simp)] at h4
     refine ⟨⟨h1,by omega,by omega⟩,⟨h1,by omega⟩,⟨h1,by omega,by omega⟩,⟨h1,by omega⟩,⟨h1,by omega,by omega⟩,⟨h1,by omega⟩,⟨by omega,by omega,by omega⟩,⟨by omega,by omega⟩,by kernel_rfl,(swp ys (first + r) (first + (2 * r + 1)),2 * r + 1,f),⟨by dsimp only;rw [swp_len];exact h1,by dsimp only;omega,by dsimp only;omega,h4⟩,by dsimp only;omega,?_⟩
     refine .of [(0,some 0)] [] rfl (by first | rfl | (rw [hst];rfl)) ?_ ?_
     all_goals (try exact clA)
  ·have hd:(((2 * r + 2:Nat):Int) < (hi:Int)) = False:=by simp;omega
   simp only [tl,tl2,tl4,↓un_u,isCallR,entX,argFr,ret,retI,retB,intT,unT,endR,ressR,resR,tupT,bslR,boxR,lenAll,↓reduceIte,Nat.reduceEqDiff,Nat.reduceAdd,Nat.reduceMul,Nat.reduceLT,Nat.reduceLeDiff,reduceCtorEq,Int.reduceLE,Int.reduceLT,ne_eq,Int.reduceEq,not_false_eq_true,decide_true,decide_false,Int.reduceToNat,tl3,Int.reduceBNe,Int.reduceBEq,rmK,rm1,not_true_eq_false,hw3,hd]
   refine C2.no (fun h=>h) ?_
   refine sW ?_
   refine ⟨by kernel_rfl,?_⟩
   have hkc:kid ltI ys first hi r = 2 * r + 1:=k2 (fun e=>hk e.1)
   rw [hkc] at h4 hc
   have hcl:2 * r + 1 < hi:=hc.2
   have hsl:(ys.set (first + r) (gd ys (first + (2 * r + 1)))).length = ys.length:=List.length_set
   simp only [tl,tl2,tl4,↓un_u,isCallR,entX,argFr,ret,retI,retB,intT,unT,endR,ressR,resR,tupT,bslR,boxR,lenAll,↓reduceIte,Nat.reduceEqDiff,Nat.reduceAdd,Nat.reduceMul,Nat.reduceLT,Nat.reduceLeDiff,reduceCtorEq,Int.reduceLE,Int.reduceLT,ne_eq,Int.reduceEq,not_false_eq_true,decide_true,decide_false,Int.reduceToNat,tl3,Int.reduceBNe,Int.reduceBEq,rmK,rm1,not_true_eq_false,hw4,hw6,Int.toNat_natCast,gdT_int (show first + r < ys.length by omega),gdT_int (show first + (2 * r + 1) < ys.length by omega),cellT_int]
   refine ⟨⟨h1,by omega,by omega⟩,⟨h1,by omega⟩,⟨h1,by omega,by omega⟩,⟨h1,by omega⟩,?_⟩
   refine C1.im (c_cmp_Less_int (gd ys (first + r)) (gd ys (first + (2 * r + 1)))) (by rfl) (by rfl) ?_
   simp only [tl,tl2,tl4,↓un_u,isCallR,entX,argFr,ret,retI,retB,intT,unT,endR,ressR,resR,tupT,bslR,boxR,lenAll,↓reduceIte,Nat.reduceEqDiff,Nat.reduceAdd,Nat.reduceMul,Nat.reduceLT,Nat.reduceLeDiff,reduceCtorEq,Int.reduceLE,Int.reduceLT,ne_eq,Int.reduceEq,not_false_eq_true,decide_true,decide_false,Int.reduceToNat,tl3,Int.reduceBNe,Int.reduceBEq,rmK,rm1,not_true_eq_false,hw4,hw6,Int.toNat_natCast,gdT_int (show first + r < ys.length by omega),gdT_int (show first + (2 * r + 1) < ys.length by omega),cellT_int,replT_int,setT_int,gdT_int (show first + (2 * r + 1) < (ys.set (first + r) (gd ys (first + (2 * r + 1)))).length by omega),swpT_int,Bool.not_eq_true',Bool.not_eq_false']
   refine ⟨by kernel_rfl,fun h7=>?_,fun h7=>?_⟩
   ·rw [if_pos h7] at h4
    rw [← h4]
    refine .of [(0,some 0)] [] rfl (by first | rfl | (rw [hst];rfl)) ?_ ?_
    all_goals (try exact clA)
   ·rw [if_neg (by rw [h7];simp)] at h4
    refine ⟨⟨h1,by omega,by omega⟩,⟨h1,by omega⟩,⟨h1,by omega,by omega⟩,⟨h1,by omega⟩,⟨h1,by omega,by omega⟩,⟨h1,by omega⟩,⟨by omega,by omega,by omega⟩,⟨by omega,by omega⟩,by kernel_rfl,(swp ys (first + r) (first + (2 * r + 1)),2 * r + 1,f),⟨by dsimp only;rw [swp_len];exact h1,by dsimp only;omega,by dsimp only;omega,h4⟩,by dsimp only;omega,?_⟩
    refine .of [(0,some 0)] [] rfl (by first | rfl | (rw [hst];rfl)) ?_ ?_
    all_goals (try exact clA)
theorem updT_int {st:Sto} {B:List Nat} (n:Nat) (ts:List T) (h:imAL ts = true):ltAs st [(0,some 0)] B (.asl 0 n :: ts) (.asl 0 n :: ts):=⟨by simp [ltA,ltC,ltC0,TL.get],ltAs_im h⟩
theorem c_slices_heapSortOrdered_int (xs:List Int) (a b:Nat) (hab:a < b) (hb:b≤xs.length) (hl:xs.length < 2305843009213693952) :
 Spc Tryd.prog F_slices_heapSortOrdered_int [.asl 0 xs.length,vI a,vI b] [(0,.arr 1 (xs.map vI) false)] (.tup []) [(0,.arr 1 ((heapS ltI xs a b).map vI) false)]:=by
 have hw1:IntKind.i64.wrap ((b:Int) - a) = ((b - a:Nat):Int):=by rw [IntWalk.i64_in _ (by omega)];omega
 have hw2:IntKind.i64.wrap (((b - a:Nat):Int) - 1) = ((b - a - 1:Nat):Int):=by rw [IntWalk.i64_in _ (by omega)];omega
 have hw3:IntKind.i64.wrap ((((b - a - 1:Nat):Int)).tdiv 2) = (((b - a - 1) / 2:Nat):Int):=by rw [Int.tdiv_eq_ediv_of_nonneg (by omega),IntWalk.i64_in _ (by omega)];omega
 refine spec_of_ir fn_slices_heapSortOrdered_int mixm (by simp) fun e _ hst=>W_start ?_
 unfold ir_slices_heapSortOrdered_int
 simp only [tl,tl2,tl4,↓un_u,isCallR,entX,argFr,ret,retI,retB,intT,unT,endR,ressR,resR,tupT,bslR,boxR,lenAll,↓reduceIte,Nat.reduceEqDiff,Nat.reduceAdd,Nat.reduceMul,Nat.reduceLT,Nat.reduceLeDiff,reduceCtorEq,Int.reduceLE,Int.reduceLT,ne_eq,Int.reduceEq,not_false_eq_true,decide_true,decide_false,Int.reduceToNat,tl3,Int.reduceBNe,Int.reduceBEq,rmK,rm1,not_true_eq_false,hw1,hw2,hw3]
 refine W_loopF mixm (α:=List Int×Nat) [9] (fun q=>q.1.length = xs.length∧q.2≤(b - a - 1) / 2 + 1∧hB ltI a (b - a) q.2 q.1 = hB ltI a (b - a) ((b - a - 1) / 2 + 1) xs) (fun q=>[(9,vI ((q.2:Int) - 1))]) (fun q=>[(0,.arr 1 (q.1.map vI) false)]) (fun q=>q.2) (xs,(b - a - 1) / 2 + 1) ⟨rfl,Nat.le_refl _,rfl⟩ ?_ fun q hq=>?_
 ·have e0:((((b - a - 1) / 2 + 1:Nat):Int) - 1) = (((b - a - 1) / 2:Nat):Int):=by omega
  dsimp only
  rw [e0]
  refine .of [(0,some 0)] [] rfl (by first | rfl | (rw [hst];rfl)) ?_ ?_
  all_goals (try exact clA)
 obtain ⟨ys,k⟩:=q
 obtain ⟨h1,h2,h3⟩:=hq
 dsimp only at h1 h2 h3
 simp only [tl,tl2,tl4,↓un_u,isCallR,entX,argFr,ret,retI,retB,intT,unT,endR,ressR,resR,tupT,bslR,boxR,lenAll,↓reduceIte,Nat.reduceEqDiff,Nat.reduceAdd,Nat.reduceMul,Nat.reduceLT,Nat.reduceLeDiff,reduceCtorEq,Int.reduceLE,Int.reduceLT,ne_eq,Int.reduceEq,not_false_eq_true,decide_true,decide_false,Int.reduceToNat,tl3,Int.reduceBNe,Int.reduceBEq,rmK,rm1,not_true_eq_false,decide_eq_true_eq,decide_eq_false_iff_not]
 refine ⟨fun h5=>?_,fun h5=>?_⟩
 ·obtain ⟨k,rfl⟩:∃ j,k = j + 1:=⟨k - 1,by omega⟩
  have e1:(((k + 1:Nat):Int) - 1) = (k:Int):=by omega
  have e2:IntKind.i64.wrap ((k:Int) - 1) = (k:Int) - 1:=IntWalk.i64_in _ (by omega)
  have h6:=c_slices_siftDownOrdered_int ys k (b - a) a (by omega) (by omega) (by omega)
  rw [hB] at h3
  have hsl:=(sift_sw ltI (first:=a) (hi:=b - a) (b - a + 1) k ys (by omega)).len
  simp only [tl,tl2,tl4,↓un_u,isCallR,entX,argFr,ret,retI,retB,intT,unT,endR,ressR,resR,tupT,bslR,boxR,lenAll,↓reduceIte,Nat.reduceEqDiff,Nat.reduceAdd,Nat.reduceMul,Nat.reduceLT,Nat.reduceLeDiff,reduceCtorEq,Int.reduceLE,Int.reduceLT,ne_eq,Int.reduceEq,not_false_eq_true,decide_true,decide_false,Int.reduceToNat,tl3,Int.reduceBNe,Int.reduceBEq,rmK,rm1,not_true_eq_false,e1]
  refine C1.upd 0 1 _ _ h6 (by rfl) (by apply imXs_map;intro _;exact ⟨rfl,rfl⟩) (by apply imXs_map;intro _;exact ⟨rfl,rfl⟩) (by rw [h1];exact updT_int _ _ (by rfl)) (by rfl) ?_
  simp only [tl,tl2,tl4,↓un_u,isCallR,entX,argFr,ret,retI,retB,intT,unT,endR,ressR,resR,tupT,bslR,boxR,lenAll,↓reduceIte,Nat.reduceEqDiff,Nat.reduceAdd,Nat.reduceMul,Nat.reduceLT,Nat.reduceLeDiff,reduceCtorEq,Int.reduceLE,Int.reduceLT,ne_eq,Int.reduceEq,not_false_eq_true,decide_true,decide_false,Int.reduceToNat,tl3,Int.reduceBNe,Int.reduceBEq,rmK,rm1,not_true_eq_false,e2]
  refine ⟨(sift ltI a (b - a) (b - a + 1) k ys,k),⟨by dsimp only;rw [hsl];exact h1,by dsimp only;omega,h3⟩,by dsimp only;omega,?_⟩
  refine .of [(0,some 0)] [] rfl (by first | rfl | (rw [hst];rfl)) ?_ ?_
  all_goals (try exact clA)
 ·obtain rfl:k = 0:=by omega
  rw [hB] at h3
  have hsl:=(hB_sw ltI (first:=a) (hi:=b - a) ((b - a - 1) / 2 + 1) xs (by omega)).len
  simp only [tl,tl2,tl4,↓un_u,isCallR,entX,argFr,ret,retI,retB,intT,unT,endR,ressR,resR,tupT,bslR,boxR,lenAll,↓reduceIte,Nat.reduceEqDiff,Nat.reduceAdd,Nat.reduceMul,Nat.reduceLT,Nat.reduceLeDiff,reduceCtorEq,Int.reduceLE,Int.reduceLT,ne_eq,Int.reduceEq,not_false_eq_true,decide_true,decide_false,Int.reduceToNat,tl3,Int.reduceBNe,Int.reduceBEq,rmK,rm1,not_true_eq_false,hw1,hw2]
  refine W_loopF mixm (α:=List Int×Nat) [10] (fun q=>q.1.length = xs.length∧q.2≤b - a∧hS ltI a q.2 q.1 = hS ltI a (b - a) ys) (fun q=>[(10,vI ((q.2:Int) - 1))]) (fun q=>[(0,.arr 1 (q.1.map vI) false)]) (fun q=>q.2) (ys,b - a) ⟨h1,Nat.le_refl _,rfl⟩ ?_ fun q hq=>?_
  ·have e0:(((b - a:Nat):Int) - 1) = ((b - a - 1:Nat):Int):=by omega
   dsimp only
   rw [e0]
   refine .of [(0,some 0)] [] rfl (by first | rfl | (rw [hst];rfl)) ?_ ?_
   all_goals (try exact clA)
  obtain ⟨zs,k⟩:=q
  obtain ⟨g1,g2,g3⟩:=hq
  dsimp only at g1 g2 g3
  simp only [tl,tl2,tl4,↓un_u,isCallR,entX,argFr,ret,retI,retB,intT,unT,endR,ressR,resR,tupT,bslR,boxR,lenAll,↓reduceIte,Nat.reduceEqDiff,Nat.reduceAdd,Nat.reduceMul,Nat.reduceLT,Nat.reduceLeDiff,reduceCtorEq,Int.reduceLE,Int.reduceLT,ne_eq,Int.reduceEq,not_false_eq_true,decide_true,decide_false,Int.reduceToNat,tl3,Int.reduceBNe,Int.reduceBEq,rmK,rm1,not_true_eq_false,decide_eq_true_eq,decide_eq_false_iff_not]
  refine ⟨fun h5=>?_,fun h5=>?_⟩
  ·obtain ⟨k,rfl⟩:∃ j,k = j + 1:=⟨k - 1,by omega⟩
   have e1:(((k + 1:Nat):Int) - 1) = (k:Int):=by omega
   have e2:IntKind.i64.wrap ((k:Int) - 1) = (k:Int) - 1:=IntWalk.i64_in _ (by omega)
   have e3:IntKind.i64.wrap ((a:Int) + (k:Int)) = ((a + k:Nat):Int):=by rw [IntWalk.i64_in _ (by omega)];omega
   rw [hS] at g3
   have hsw:=swp_len zs a (a + k)
   have h6:=c_slices_siftDownOrdered_int (swp zs a (a + k)) 0 k a (by omega) (by omega) (by omega)
   have hsl:=(sift_sw ltI (first:=a) (hi:=k) (k + 1) 0 (swp zs a (a + k)) (by omega)).len
   have hsl2:(zs.set a (gd zs (a + k))).length = zs.length:=List.length_set
   simp only [tl,tl2,tl4,↓un_u,isCallR,entX,argFr,ret,retI,retB,intT,unT,endR,ressR,resR,tupT,bslR,boxR,lenAll,↓reduceIte,Nat.reduceEqDiff,Nat.reduceAdd,Nat.reduceMul,Nat.reduceLT,Nat.reduceLeDiff,reduceCtorEq,Int.reduceLE,Int.reduceLT,ne_eq,Int.reduceEq,not_false_eq_true,decide_true,decide_false,Int.reduceToNat,tl3,Int.reduceBNe,Int.reduceBEq,rmK,rm1,not_true_eq_false,e1,e3,Int.toNat_natCast,gdT_int (show a < zs.length by omega),gdT_int (show a + k < zs.length by omega),replT_int,cellT_int,setT_int,gdT_int (show a + k < (zs.set a (gd zs (a + k))).length by omega),swpT_int]
   refine ⟨⟨g1,by omega,by omega⟩,⟨g1,by omega⟩,⟨g1,by omega,by omega⟩,⟨g1,by omega⟩,⟨g1,by omega,by omega⟩,⟨g1,by omega⟩,⟨by omega,by omega,by omega⟩,⟨by omega,by omega⟩,by kernel_rfl,?_⟩
   refine C1.upd 0 1 _ _ h6 (by rfl) (by apply imXs_map;intro _;exact ⟨rfl,rfl⟩) (by apply imXs_map;intro _;exact ⟨rfl,rfl⟩) (by rw [hsw,g1];exact updT_int _ _ (by rfl)) (by rfl) ?_
   simp only [tl,tl2,tl4,↓un_u,isCallR,entX,argFr,ret,retI,retB,intT,unT,endR,ressR,resR,tupT,bslR,boxR,lenAll,↓reduceIte,Nat.reduceEqDiff,Nat.reduceAdd,Nat.reduceMul,Nat.reduceLT,Nat.reduceLeDiff,reduceCtorEq,Int.reduceLE,Int.reduceLT,ne_eq,Int.reduceEq,not_false_eq_true,decide_true,decide_false,Int.reduceToNat,tl3,Int.reduceBNe,Int.reduceBEq,rmK,rm1,not_true_eq_false,e2]
   refine ⟨(sift ltI a k (k + 1) 0 (swp zs a (a + k)),k),⟨by dsimp only;rw [hsl,hsw];exact g1,by dsimp only;omega,g3⟩,by dsimp only;omega,?_⟩
   refine .of [(0,some 0)] [] rfl (by first | rfl | (rw [hst];rfl)) ?_ ?_
   all_goals (try exact clA)
  ·obtain rfl:k = 0:=by omega
   rw [hS] at g3
   have h7:zs = heapS ltI xs a b:=by rw [g3,h3,heapS]
   rw [h7]
   refine .of [(0,some 0)] [] rfl (by first | rfl | (rw [hst];rfl)) ?_ ?_
   all_goals (try exact clA)
theorem c_slices_partitionOrdered_int (xs:List Int) (a b pv:Nat) (hab:a + 1 < b) (hp1:a≤pv) (hp2:pv < b) (hb:b≤xs.length) (hl:xs.length < 2305843009213693952) :
 Spc Tryd.prog F_slices_partitionOrdered_int [.asl 0 xs.length,vI a,vI b,vI pv] [(0,.arr 1 (xs.map vI) false)] (.tup [vI (partO ltI xs a b pv).2,vB (flO ltI xs a b pv)]) [(0,.arr 1 ((partO ltI xs a b pv).1.map vI) false)]:=by
 have hw1:IntKind.i64.wrap ((a:Int) + 1) = ((a + 1:Nat):Int):=i64_succ (by omega)
 have hw2:IntKind.i64.wrap ((b:Int) - 1) = ((b - 1:Nat):Int):=by rw [IntWalk.i64_in _ (by omega)];omega
 have hsl:(xs.set a (gd xs pv)).length = xs.length:=List.length_set
 have hgw:gd (swp xs a pv) a = gd xs pv:=by
  rw [gd_swp (by omega) (by omega)]
  by_cases h:a = pv
  ·subst h;rw [if_pos rfl]
  ·rw [if_neg h,if_pos rfl]
 refine spec_of_ir fn_slices_partitionOrdered_int mixm (by simp) fun e _ hst=>W_start ?_
 unfold ir_slices_partitionOrdered_int
 simp only [tl,tl2,tl4,↓un_u,isCallR,entX,argFr,ret,retI,retB,intT,unT,endR,ressR,resR,tupT,bslR,boxR,lenAll,↓reduceIte,Nat.reduceEqDiff,Nat.reduceAdd,Nat.reduceMul,Nat.reduceLT,Nat.reduceLeDiff,reduceCtorEq,Int.reduceLE,Int.reduceLT,ne_eq,Int.reduceEq,not_false_eq_true,decide_true,decide_false,Int.reduceToNat,tl3,Int.reduceBNe,Int.reduceBEq,rmK,rm1,not_true_eq_false,hw1,hw2,Int.toNat_natCast,gdT_int (show a < xs.length by omega),gdT_int (show pv < xs.length by omega),replT_int,cellT_int,setT_int,gdT_int (show pv < (xs.set a (gd xs pv)).length by omega),swpT_int]
 refine ⟨by omega,by omega,by omega,by omega,by omega,by omega,by omega,by omega,by kernel_rfl,?_⟩
 have hys:=swp_len xs a pv
 generalize hYS:swp xs a pv = ys at *
 refine W_loopF mixm (α:=Nat) [10] (fun i=>a + 1≤i∧i≤(b - 1) + 1∧up (fun v=>ltI v (gd xs pv)) (b - 1) ys ((b - 1) + 1 - i) i = up (fun v=>ltI v (gd xs pv)) (b - 1) ys ((b - 1) + 1 - (a + 1)) (a + 1)) (fun i=>[(10,vI i)]) (fun i=>[(0,.arr 1 (ys.map vI) false)]) (fun i=>(b - 1) + 1 - i) (a + 1) ⟨Nat.le_refl _,by omega,rfl⟩ ?_ fun i hi=>?_
 ·refine .of [(0,some 0)] [] rfl (by first | rfl | (rw [hst];rfl)) ?_ ?_
  all_goals (try exact clA)
 obtain ⟨hu1,hu2,hu3⟩:=hi
 have hwu:=i64_succ (i:=i) (by omega)
 simp only [tl,tl2,tl4,↓un_u,isCallR,entX,argFr,ret,retI,retB,intT,unT,endR,ressR,resR,tupT,bslR,boxR,lenAll,↓reduceIte,Nat.reduceEqDiff,Nat.reduceAdd,Nat.reduceMul,Nat.reduceLT,Nat.reduceLeDiff,reduceCtorEq,Int.reduceLE,Int.reduceLT,ne_eq,Int.reduceEq,not_false_eq_true,decide_true,decide_false,Int.reduceToNat,tl3,Int.reduceBNe,Int.reduceBEq,rmK,rm1,not_true_eq_false,Int.toNat_natCast,gdT_int (show a < ys.length by omega),cellT_int,hgw]
 refine ⟨fun h=>by have:=of_decide_eq_true h;omega,fun h=>by have:=of_decide_eq_true h;omega,fun h=>by have:=of_decide_eq_true h;omega,fun h=>by have:=of_decide_eq_true h;omega,?_⟩
 refine C2.im (r:=vB (ltI (gd ys i) (gd xs pv))) (fun h=>by have:=of_decide_eq_true h;rw [gdT_int (show i < ys.length by omega)];exact c_cmp_Less_int (gd ys i) (gd xs pv)) (fun h=>by have:=of_decide_eq_true h;rw [gdT_int (show i < ys.length by omega)];rfl) rfl ?_
 simp only [tl,tl2,tl4,↓un_u,isCallR,entX,argFr,ret,retI,retB,intT,unT,endR,ressR,resR,tupT,bslR,boxR,lenAll,↓reduceIte,Nat.reduceEqDiff,Nat.reduceAdd,Nat.reduceMul,Nat.reduceLT,Nat.reduceLeDiff,reduceCtorEq,Int.reduceLE,Int.reduceLT,ne_eq,Int.reduceEq,not_false_eq_true,decide_true,decide_false,Int.reduceToNat,tl3,Int.reduceBNe,Int.reduceBEq,rmK,rm1,not_true_eq_false,hwu]
 refine ⟨by kernel_rfl,fun h5=>?_,fun h5=>?_⟩
 ·obtain ⟨h5,h6⟩:=dand h5
  refine ⟨i + 1,⟨by omega,by omega,(up_step (p:=(fun v=>ltI v (gd xs pv))) (by omega) h6).symm.trans hu3⟩,by omega,?_⟩
  refine .of [(0,some 0)] [] rfl (by first | rfl | (rw [hst];rfl)) ?_ ?_
  all_goals (try exact clA)
 have hu5:=dandn h5
 have hu4:up (fun v=>ltI v (gd xs pv)) (b - 1) ys ((b - 1) + 1 - (a + 1)) (a + 1) = i:=hu3.symm.trans (up_stop _ (fun h=>hu5 ⟨by omega,h.2⟩))
 clear h5 hu3
 refine W_loopF mixm (α:=Nat) [11,43] (fun j=>j≤(b - 1)∧i≤j + 1∧dn (fun v=>ltI v (gd xs pv)) i ys (j + 1 - i) j = dn (fun v=>ltI v (gd xs pv)) i ys ((b - 1) + 1 - i) ((b - 1))) (fun j=>[(11,vI j)]) (fun j=>[(0,.arr 1 (ys.map vI) false)]) (fun j=>j + 1 - i) ((b - 1)) ⟨Nat.le_refl _,by omega,rfl⟩ ?_ fun j hj=>?_
 ·refine .of [(0,some 0)] [] rfl (by first | rfl | (rw [hst];rfl)) ?_ ?_
  all_goals (try exact clA)
 obtain ⟨hd1,hd2,hd3⟩:=hj
 have hwd:i≤j→IntKind.i64.wrap ((j:Int) - 1) = ((j - 1:Nat):Int):=fun h=>by rw [IntWalk.i64_in _ (by omega)];omega
 simp only [tl,tl2,tl4,↓un_u,isCallR,entX,argFr,ret,retI,retB,intT,unT,endR,ressR,resR,tupT,bslR,boxR,lenAll,↓reduceIte,Nat.reduceEqDiff,Nat.reduceAdd,Nat.reduceMul,Nat.reduceLT,Nat.reduceLeDiff,reduceCtorEq,Int.reduceLE,Int.reduceLT,ne_eq,Int.reduceEq,not_false_eq_true,decide_true,decide_false,Int.reduceToNat,tl3,Int.reduceBNe,Int.reduceBEq,rmK,rm1,not_true_eq_false,Int.toNat_natCast,gdT_int (show a < ys.length by omega),cellT_int,hgw]
 refine ⟨fun h=>by have:=of_decide_eq_true h;omega,fun h=>by have:=of_decide_eq_true h;omega,fun h=>by have:=of_decide_eq_true h;omega,fun h=>by have:=of_decide_eq_true h;omega,?_⟩
 refine C2.im (r:=vB (ltI (gd ys j) (gd xs pv))) (fun h=>by have:=of_decide_eq_true h;rw [gdT_int (show j < ys.length by omega)];exact c_cmp_Less_int (gd ys j) (gd xs pv)) (fun h=>by have:=of_decide_eq_true h;rw [gdT_int (show j < ys.length by omega)];rfl) rfl ?_
 refine sW ?_
 refine ⟨by kernel_rfl,fun h5=>?_,fun h5=>?_⟩
 ·obtain ⟨h5,h6⟩:=dand h5
  rw [Bool.not_eq_true'] at h6
  rw [hwd (by omega)]
  refine ⟨j - 1,⟨by omega,by omega,(dn_step (p:=(fun v=>ltI v (gd xs pv))) (by omega) (by omega) h6).symm.trans hd3⟩,by omega,?_⟩
  refine .of [(0,some 0)] [] rfl (by first | rfl | (rw [hst];rfl)) ?_ ?_
  all_goals (try exact clA)
 have hd5:=dandn h5
 have hd4:dn (fun v=>ltI v (gd xs pv)) i ys ((b - 1) + 1 - i) ((b - 1)) = j:=hd3.symm.trans (dn_stop _ (fun h=>hd5 ⟨by omega,(by have h7:ltI (gd ys j) (gd xs pv) = false:=h.2;rw [h7];rfl)⟩))
 clear h5 hd3
 simp only [tl,tl2,tl4,↓un_u,isCallR,entX,argFr,ret,retI,retB,intT,unT,endR,ressR,resR,tupT,bslR,boxR,lenAll,↓reduceIte,Nat.reduceEqDiff,Nat.reduceAdd,Nat.reduceMul,Nat.reduceLT,Nat.reduceLeDiff,reduceCtorEq,Int.reduceLE,Int.reduceLT,ne_eq,Int.reduceEq,not_false_eq_true,decide_true,decide_false,Int.reduceToNat,tl3,Int.reduceBNe,Int.reduceBEq,rmK,rm1,not_true_eq_false,decide_eq_true_eq,decide_eq_false_iff_not]
 have hfl:flO ltI xs a b pv = decide (j < i):=by rw [flO,hYS,hu4,hd4]
 refine ⟨fun h5=>?_,fun h5=>?_⟩
 ·have hpo:partO ltI xs a b pv = (swp ys j a,j):=by
   obtain ⟨f,rfl⟩:∃ f,b = f + 1:=⟨b - 1,by omega⟩
   rw [partO,hYS,prt,hu4,hd4,if_pos (by omega)]
  rw [hpo,hfl,decide_eq_true (show j < i by omega)]
  have hss:(ys.set j (gd ys a)).length = ys.length:=List.length_set
  simp only [tl,tl2,tl4,↓un_u,isCallR,entX,argFr,ret,retI,retB,intT,unT,endR,ressR,resR,tupT,bslR,boxR,lenAll,↓reduceIte,Nat.reduceEqDiff,Nat.reduceAdd,Nat.reduceMul,Nat.reduceLT,Nat.reduceLeDiff,reduceCtorEq,Int.reduceLE,Int.reduceLT,ne_eq,Int.reduceEq,not_false_eq_true,decide_true,decide_false,Int.reduceToNat,tl3,Int.reduceBNe,Int.reduceBEq,rmK,rm1,not_true_eq_false,Int.toNat_natCast,gdT_int (show j < ys.length by omega),gdT_int (show a < ys.length by omega),replT_int,cellT_int,setT_int,gdT_int (show a < (ys.set j (gd ys a)).length by omega),swpT_int]
  refine ⟨by omega,by omega,by omega,by omega,by omega,by omega,by omega,by omega,by kernel_rfl,?_⟩
  refine .of [(0,some 0)] [] rfl (by first | rfl | (rw [hst];rfl)) ?_ ?_
  all_goals (try exact clA)
 ·skip
  have hij:i < j:=by
   by_cases h:i = j
   ·exfalso;subst h
    cases hv:ltI (gd ys i) (gd xs pv) with
    | true=>exact hu5 ⟨by omega,hv⟩
    | false=>exact hd5 ⟨by omega,by rw [hv];rfl⟩
   ·omega
  rw [hfl,decide_eq_false (show ¬ j < i by omega)]
  have hpo:partO ltI xs a b pv = (swp (prt (fun v=>ltI v (gd xs pv)) (b - 1) (swp ys i j) (i + 1) (j - 1)).1 (prt (fun v=>ltI v (gd xs pv)) (b - 1) (swp ys i j) (i + 1) (j - 1)).2.2 a,(prt (fun v=>ltI v (gd xs pv)) (b - 1) (swp ys i j) (i + 1) (j - 1)).2.2):=by
   obtain ⟨f,rfl⟩:∃ f,b = f + 1:=⟨b - 1,by omega⟩
   rw [partO,hYS,prt,hu4,hd4,if_neg (by omega)];rfl
  have hwi:=i64_succ (i:=i) (by omega)
  have hwj:IntKind.i64.wrap ((j:Int) - 1) = ((j - 1:Nat):Int):=by rw [IntWalk.i64_in _ (by omega)];omega
  have hss:(ys.set i (gd ys j)).length = ys.length:=List.length_set
  simp only [tl,tl2,tl4,↓un_u,isCallR,entX,argFr,ret,retI,retB,intT,unT,endR,ressR,resR,tupT,bslR,boxR,lenAll,↓reduceIte,Nat.reduceEqDiff,Nat.reduceAdd,Nat.reduceMul,Nat.reduceLT,Nat.reduceLeDiff,reduceCtorEq,Int.reduceLE,Int.reduceLT,ne_eq,Int.reduceEq,not_false_eq_true,decide_true,decide_false,Int.reduceToNat,tl3,Int.reduceBNe,Int.reduceBEq,rmK,rm1,not_true_eq_false,Int.toNat_natCast,gdT_int (show i < ys.length by omega),gdT_int (show j < ys.length by omega),replT_int,cellT_int,setT_int,gdT_int (show j < (ys.set i (gd ys j)).length by omega),swpT_int,hwi,hwj]
  refine ⟨by omega,by omega,by omega,by omega,by omega,by omega,by omega,by omega,by kernel_rfl,?_⟩
  have hyl:=swp_len ys i j
  have hgy:gd (swp ys i j) a = gd xs pv:=by rw [gd_swp (by omega) (by omega),if_neg (by omega),if_neg (by omega),hgw]
  refine W_loopF mixm (α:=List Int×Nat×Nat×Nat) [10,11,65,60,43] (fun q=>q.1.length = xs.length∧gd q.1 a = gd xs pv∧a + 1≤q.2.1∧q.2.1≤q.2.2.1 + 1∧q.2.2.1≤b - 1∧q.2.2.1 + 1 < q.2.1 + q.2.2.2∧prt (fun v=>ltI v (gd xs pv)) q.2.2.2 q.1 q.2.1 q.2.2.1 = prt (fun v=>ltI v (gd xs pv)) (b - 1) (swp ys i j) (i + 1) (j - 1)) (fun q=>[(10,vI q.2.1),(11,vI q.2.2.1)]) (fun q=>[(0,.arr 1 (q.1.map vI) false)]) (fun q=>q.2.2.2) (swp ys i j,i + 1,j - 1,b - 1) ⟨by dsimp only;omega,hgy,by dsimp only;omega,by dsimp only;omega,by dsimp only;omega,by dsimp only;omega,rfl⟩ ?_ fun q hq=>?_
  ·refine .of [(0,some 0)] [] rfl (by first | rfl | (rw [hst];rfl)) ?_ ?_
   all_goals (try exact clA)
  clear hu4 hd4 hu5 hd5 hij hu1 hu2 hd1 hd2 hgw hss
  generalize prt (fun v=>ltI v (gd xs pv)) (b - 1) (swp ys i j) (i + 1) (j - 1) = R at *
  obtain ⟨zs,m,n,f⟩:=q
  obtain ⟨g1,g2,g3,g4,g5,g6,g7⟩:=hq
  dsimp only at g1 g2 g3 g4 g5 g6 g7
  dsimp only
  refine sW ?_
  refine W_loopF mixm (α:=Nat) [10] (fun i=>m≤i∧i≤n + 1∧up (fun v=>ltI v (gd xs pv)) n zs (n + 1 - i) i = up (fun v=>ltI v (gd xs pv)) n zs (n + 1 - (m)) (m)) (fun i=>[(10,vI i)]) (fun i=>[(0,.arr 1 (zs.map vI) false)]) (fun i=>n + 1 - i) (m) ⟨Nat.le_refl _,by omega,rfl⟩ ?_ fun i1 hi=>?_
  ·refine .of [(0,some 0)] [] rfl (by first | rfl | (rw [hst];rfl)) ?_ ?_
   all_goals (try exact clA)
  obtain ⟨hu1,hu2,hu3⟩:=hi
  have hwu:=i64_succ (i:=i1) (by omega)
  simp only [tl,tl2,tl4,↓un_u,isCallR,entX,argFr,ret,retI,retB,intT,unT,endR,ressR,resR,tupT,bslR,boxR,lenAll,↓reduceIte,Nat.reduceEqDiff,Nat.reduceAdd,Nat.reduceMul,Nat.reduceLT,Nat.reduceLeDiff,reduceCtorEq,Int.reduceLE,Int.reduceLT,ne_eq,Int.reduceEq,not_false_eq_true,decide_true,decide_false,Int.reduceToNat,tl3,Int.reduceBNe,Int.reduceBEq,rmK,rm1,not_true_eq_false,Int.toNat_natCast,gdT_int (show a < zs.length by omega),cellT_int,g2]
  refine ⟨fun h=>by have:=of_decide_eq_true h;omega,fun h=>by have:=of_decide_eq_true h;omega,fun h=>by have:=of_decide_eq_true h;omega,fun h=>by have:=of_decide_eq_true h;omega,?_⟩
  refine C2.im (r:=vB (ltI (gd zs i1) (gd xs pv))) (fun h=>by have:=of_decide_eq_true h;rw [gdT_int (show i1 < zs.length by omega)];exact c_cmp_Less_int (gd zs i1) (gd xs pv)) (fun h=>by have:=of_decide_eq_true h;rw [gdT_int (show i1 < zs.length by omega)];rfl) rfl ?_
  simp only [tl,tl2,tl4,↓un_u,isCallR,entX,argFr,ret,retI,retB,intT,unT,endR,ressR,resR,tupT,bslR,boxR,lenAll,↓reduceIte,Nat.reduceEqDiff,Nat.reduceAdd,Nat.reduceMul,Nat.reduceLT,Nat.reduceLeDiff,reduceCtorEq,Int.reduceLE,Int.reduceLT,ne_eq,Int.reduceEq,not_false_eq_true,decide_true,decide_false,Int.reduceToNat,tl3,Int.reduceBNe,Int.reduceBEq,rmK,rm1,not_true_eq_false,hwu]
  refine ⟨by kernel_rfl,fun h5=>?_,fun h5=>?_⟩
  ·obtain ⟨h5,h6⟩:=dand h5
   refine ⟨i1 + 1,⟨by omega,by omega,(up_step (p:=(fun v=>ltI v (gd xs pv))) (by omega) h6).symm.trans hu3⟩,by omega,?_⟩
   refine .of [(0,some 0)] [] rfl (by first | rfl | (rw [hst];rfl)) ?_ ?_
   all_goals (try exact clA)
  have hu5:=dandn h5
  have hu4:up (fun v=>ltI v (gd xs pv)) n zs (n + 1 - (m)) (m) = i1:=hu3.symm.trans (up_stop _ (fun h=>hu5 ⟨by omega,h.2⟩))
  clear h5 hu3
  refine W_loopF mixm (α:=Nat) [11,112] (fun j=>j≤n∧i1≤j + 1∧dn (fun v=>ltI v (gd xs pv)) i1 zs (j + 1 - i1) j = dn (fun v=>ltI v (gd xs pv)) i1 zs (n + 1 - i1) (n)) (fun j=>[(11,vI j)]) (fun j=>[(0,.arr 1 (zs.map vI) false)]) (fun j=>j + 1 - i1) (n) ⟨Nat.le_refl _,by omega,rfl⟩ ?_ fun j1 hj=>?_
  ·refine .of [(0,some 0)] [] rfl (by first | rfl | (rw [hst];rfl)) ?_ ?_
   all_goals (try exact clA)
  obtain ⟨hd1,hd2,hd3⟩:=hj
  have hwd:i1≤j1→IntKind.i64.wrap ((j1:Int) - 1) = ((j1 - 1:Nat):Int):=fun h=>by rw [IntWalk.i64_in _ (by omega)];omega
  simp only [tl,tl2,tl4,↓un_u,isCallR,entX,argFr,ret,retI,retB,intT,unT,endR,ressR,resR,tupT,bslR,boxR,lenAll,↓reduceIte,Nat.reduceEqDiff,Nat.reduceAdd,Nat.reduceMul,Nat.reduceLT,Nat.reduceLeDiff,reduceCtorEq,Int.reduceLE,Int.reduceLT,ne_eq,Int.reduceEq,not_false_eq_true,decide_true,decide_false,Int.reduceToNat,tl3,Int.reduceBNe,Int.reduceBEq,rmK,rm1,not_true_eq_false,Int.toNat_natCast,gdT_int (show a < zs.length by omega),cellT_int,g2]
  refine ⟨fun h=>by have:=of_decide_eq_true h;omega,fun h=>by have:=of_decide_eq_true h;omega,fun h=>by have:=of_decide_eq_true h;omega,fun h=>by have:=of_decide_eq_true h;omega,?_⟩
  refine C2.im (r:=vB (ltI (gd zs j1) (gd xs pv))) (fun h=>by have:=of_decide_eq_true h;rw [gdT_int (show j1 < zs.length by omega)];exact c_cmp_Less_int (gd zs j1) (gd xs pv)) (fun h=>by have:=of_decide_eq_true h;rw [gdT_int (show j1 < zs.length by omega)];rfl) rfl ?_
  refine sW ?_
  refine ⟨by kernel_rfl,fun h5=>?_,fun h5=>?_⟩
  ·obtain ⟨h5,h6⟩:=dand h5
   rw [Bool.not_eq_true'] at h6
   rw [hwd (by omega)]
   refine ⟨j1 - 1,⟨by omega,by omega,(dn_step (p:=(fun v=>ltI v (gd xs pv))) (by omega) (by omega) h6).symm.trans hd3⟩,by omega,?_⟩
   refine .of [(0,some 0)] [] rfl (by first | rfl | (rw [hst];rfl)) ?_ ?_
   all_goals (try exact clA)
  have hd5:=dandn h5
  have hd4:dn (fun v=>ltI v (gd xs pv)) i1 zs (n + 1 - i1) (n) = j1:=hd3.symm.trans (dn_stop _ (fun h=>hd5 ⟨by omega,(by have h7:ltI (gd zs j1) (gd xs pv) = false:=h.2;rw [h7];rfl)⟩))
  clear h5 hd3
  simp only [tl,tl2,tl4,↓un_u,isCallR,entX,argFr,ret,retI,retB,intT,unT,endR,ressR,resR,tupT,bslR,boxR,lenAll,↓reduceIte,Nat.reduceEqDiff,Nat.reduceAdd,Nat.reduceMul,Nat.reduceLT,Nat.reduceLeDiff,reduceCtorEq,Int.reduceLE,Int.reduceLT,ne_eq,Int.reduceEq,not_false_eq_true,decide_true,decide_false,Int.reduceToNat,tl3,Int.reduceBNe,Int.reduceBEq,rmK,rm1,not_true_eq_false,decide_eq_true_eq,decide_eq_false_iff_not]
  obtain ⟨f,rfl⟩:∃ k,f = k + 1:=⟨f - 1,by omega⟩
  rw [prt,hu4,hd4] at g7
  refine ⟨fun h5=>?_,fun h5=>?_⟩
  ·rw [if_pos (by omega)] at g7
   have e1:R.1 = zs:=by rw [← g7]
   have e2:R.2.2 = j1:=by rw [← g7]
   rw [hpo,e1,e2]
   have hss:(zs.set j1 (gd zs a)).length = zs.length:=List.length_set
   simp only [tl,tl2,tl4,↓un_u,isCallR,entX,argFr,ret,retI,retB,intT,unT,endR,ressR,resR,tupT,bslR,boxR,lenAll,↓reduceIte,Nat.reduceEqDiff,Nat.reduceAdd,Nat.reduceMul,Nat.reduceLT,Nat.reduceLeDiff,reduceCtorEq,Int.reduceLE,Int.reduceLT,ne_eq,Int.reduceEq,not_false_eq_true,decide_true,decide_false,Int.reduceToNat,tl3,Int.reduceBNe,Int.reduceBEq,rmK,rm1,not_true_eq_false,Int.toNat_natCast,gdT_int (show j1 < zs.length by omega),gdT_int (show a < zs.length by omega),replT_int,cellT_int,setT_int,gdT_int (show a < (zs.set j1 (gd zs a)).length by omega),swpT_int]
   refine ⟨by omega,by omega,by omega,by omega,by omega,by omega,by omega,by omega,by kernel_rfl,?_⟩
   refine .of [(0,some 0)] [] rfl (by first | rfl | (rw [hst];rfl)) ?_ ?_
   all_goals (try exact clA)
  ·rw [if_neg (by omega)] at g7
   have hij:i1 < j1:=by
    by_cases h:i1 = j1
    ·exfalso;subst h
     cases hv:ltI (gd zs i1) (gd xs pv) with
     | true=>exact hu5 ⟨by omega,hv⟩
     | false=>exact hd5 ⟨by omega,by rw [hv];rfl⟩
    ·omega
   have hwi:=i64_succ (i:=i1) (by omega)
   have hwj:IntKind.i64.wrap ((j1:Int) - 1) = ((j1 - 1:Nat):Int):=by rw [IntWalk.i64_in _ (by omega)];omega
   have hss:(zs.set i1 (gd zs j1)).length = zs.length:=List.length_set
   simp only [tl,tl2,tl4,↓un_u,isCallR,entX,argFr,ret,retI,retB,intT,unT,endR,ressR,resR,tupT,bslR,boxR,lenAll,↓reduceIte,Nat.reduceEqDiff,Nat.reduceAdd,Nat.reduceMul,Nat.reduceLT,Nat.reduceLeDiff,reduceCtorEq,Int.reduceLE,Int.reduceLT,ne_eq,Int.reduceEq,not_false_eq_true,decide_true,decide_false,Int.reduceToNat,tl3,Int.reduceBNe,Int.reduceBEq,rmK,rm1,not_true_eq_false,Int.toNat_natCast,gdT_int (show i1 < zs.length by omega),gdT_int (show j1 < zs.length by omega),replT_int,cellT_int,setT_int,gdT_int (show j1 < (zs.set i1 (gd zs j1)).length by omega),swpT_int,hwi,hwj]
   have hzl:=swp_len zs i1 j1
   have hgz:gd (swp zs i1 j1) a = gd xs pv:=by rw [gd_swp (by omega) (by omega),if_neg (by omega),if_neg (by omega),g2]
   refine ⟨by omega,by omega,by omega,by omega,by omega,by omega,by omega,by omega,by kernel_rfl,(swp zs i1 j1,i1 + 1,j1 - 1,f),⟨by dsimp only;omega,hgz,by dsimp only;omega,by dsimp only;omega,by dsimp only;omega,by dsimp only;omega,g7⟩,by dsimp only;omega,?_⟩
   refine .of [(0,some 0)] [] rfl (by first | rfl | (rw [hst];rfl)) ?_ ?_
   all_goals (try exact clA)
theorem c_slices_partitionEqualOrdered_int (xs:List Int) (a b pv:Nat) (hab:a + 1 < b) (hp1:a≤pv) (hp2:pv < b) (hb:b≤xs.length) (hl:xs.length < 2305843009213693952) :
 Spc Tryd.prog F_slices_partitionEqualOrdered_int [.asl 0 xs.length,vI a,vI b,vI pv] [(0,.arr 1 (xs.map vI) false)] (vI (partE ltI xs a b pv).2) [(0,.arr 1 ((partE ltI xs a b pv).1.map vI) false)]:=by
 have hw1:IntKind.i64.wrap ((a:Int) + 1) = ((a + 1:Nat):Int):=i64_succ (by omega)
 have hw2:IntKind.i64.wrap ((b:Int) - 1) = ((b - 1:Nat):Int):=by rw [IntWalk.i64_in _ (by omega)];omega
 have hsl:(xs.set a (gd xs pv)).length = xs.length:=List.length_set
 have hgw:gd (swp xs a pv) a = gd xs pv:=by
  rw [gd_swp (by omega) (by omega)]
  by_cases h:a = pv
  ·subst h;rw [if_pos rfl]
  ·rw [if_neg h,if_pos rfl]
 refine spec_of_ir fn_slices_partitionEqualOrdered_int mixm (by simp) fun e _ hst=>W_start ?_
 unfold ir_slices_partitionEqualOrdered_int
 simp only [tl,tl2,tl4,↓un_u,isCallR,entX,argFr,ret,retI,retB,intT,unT,endR,ressR,resR,tupT,bslR,boxR,lenAll,↓reduceIte,Nat.reduceEqDiff,Nat.reduceAdd,Nat.reduceMul,Nat.reduceLT,Nat.reduceLeDiff,reduceCtorEq,Int.reduceLE,Int.reduceLT,ne_eq,Int.reduceEq,not_false_eq_true,decide_true,decide_false,Int.reduceToNat,tl3,Int.reduceBNe,Int.reduceBEq,rmK,rm1,not_true_eq_false,hw1,hw2,Int.toNat_natCast,gdT_int (show a < xs.length by omega),gdT_int (show pv < xs.length by omega),replT_int,cellT_int,setT_int,gdT_int (show pv < (xs.set a (gd xs pv)).length by omega),swpT_int]
 refine ⟨by omega,by omega,by omega,by omega,by omega,by omega,by omega,by omega,by kernel_rfl,?_⟩
 have hys:=swp_len xs a pv
 have hpo:partE ltI xs a b pv = ((prt (fun v=>!ltI (gd xs pv) v) b (swp xs a pv) (a + 1) (b - 1)).1,(prt (fun v=>!ltI (gd xs pv) v) b (swp xs a pv) (a + 1) (b - 1)).2.1):=rfl
 generalize hYS:swp xs a pv = ys at *
 refine W_loopF mixm (α:=List Int×Nat×Nat×Nat) [9,10] (fun q=>q.1.length = xs.length∧gd q.1 a = gd xs pv∧a + 1≤q.2.1∧q.2.1≤q.2.2.1 + 1∧q.2.2.1≤b - 1∧q.2.2.1 + 1 < q.2.1 + q.2.2.2∧prt (fun v=>!ltI (gd xs pv) v) q.2.2.2 q.1 q.2.1 q.2.2.1 = prt (fun v=>!ltI (gd xs pv) v) b ys (a + 1) (b - 1)) (fun q=>[(9,vI q.2.1),(10,vI q.2.2.1)]) (fun q=>[(0,.arr 1 (q.1.map vI) false)]) (fun q=>q.2.2.2) (ys,a + 1,b - 1,b) ⟨by dsimp only;omega,hgw,by dsimp only;omega,by dsimp only;omega,by dsimp only;omega,by dsimp only;omega,rfl⟩ ?_ fun q hq=>?_
 ·refine .of [(0,some 0)] [] rfl (by first | rfl | (rw [hst];rfl)) ?_ ?_
  all_goals (try exact clA)
 clear hgw hYS
 generalize prt (fun v=>!ltI (gd xs pv) v) b ys (a + 1) (b - 1) = R at *
 obtain ⟨zs,m,n,f⟩:=q
 obtain ⟨g1,g2,g3,g4,g5,g6,g7⟩:=hq
 dsimp only at g1 g2 g3 g4 g5 g6 g7
 dsimp only
 refine sW ?_
 refine W_loopF mixm (α:=Nat) [9] (fun i=>m≤i∧i≤n + 1∧up (fun v=>!ltI (gd xs pv) v) n zs (n + 1 - i) i = up (fun v=>!ltI (gd xs pv) v) n zs (n + 1 - (m)) (m)) (fun i=>[(9,vI i)]) (fun i=>[(0,.arr 1 (zs.map vI) false)]) (fun i=>n + 1 - i) (m) ⟨Nat.le_refl _,by omega,rfl⟩ ?_ fun i1 hi=>?_
 ·refine .of [(0,some 0)] [] rfl (by first | rfl | (rw [hst];rfl)) ?_ ?_
  all_goals (try exact clA)
 obtain ⟨hu1,hu2,hu3⟩:=hi
 have hwu:=i64_succ (i:=i1) (by omega)
 simp only [tl,tl2,tl4,↓un_u,isCallR,entX,argFr,ret,retI,retB,intT,unT,endR,ressR,resR,tupT,bslR,boxR,lenAll,↓reduceIte,Nat.reduceEqDiff,Nat.reduceAdd,Nat.reduceMul,Nat.reduceLT,Nat.reduceLeDiff,reduceCtorEq,Int.reduceLE,Int.reduceLT,ne_eq,Int.reduceEq,not_false_eq_true,decide_true,decide_false,Int.reduceToNat,tl3,Int.reduceBNe,Int.reduceBEq,rmK,rm1,not_true_eq_false,Int.toNat_natCast,gdT_int (show a < zs.length by omega),cellT_int,g2]
 refine ⟨fun h=>by have:=of_decide_eq_true h;omega,fun h=>by have:=of_decide_eq_true h;omega,fun h=>by have:=of_decide_eq_true h;omega,fun h=>by have:=of_decide_eq_true h;omega,?_⟩
 refine C2.im (r:=vB (ltI (gd xs pv) (gd zs i1))) (fun h=>by have:=of_decide_eq_true h;rw [gdT_int (show i1 < zs.length by omega)];exact c_cmp_Less_int (gd xs pv) (gd zs i1)) (fun h=>by have:=of_decide_eq_true h;rw [gdT_int (show i1 < zs.length by omega)];rfl) rfl ?_
 simp only [tl,tl2,tl4,↓un_u,isCallR,entX,argFr,ret,retI,retB,intT,unT,endR,ressR,resR,tupT,bslR,boxR,lenAll,↓reduceIte,Nat.reduceEqDiff,Nat.reduceAdd,Nat.reduceMul,Nat.reduceLT,Nat.reduceLeDiff,reduceCtorEq,Int.reduceLE,Int.reduceLT,ne_eq,Int.reduceEq,not_false_eq_true,decide_true,decide_false,Int.reduceToNat,tl3,Int.reduceBNe,Int.reduceBEq,rmK,rm1,not_true_eq_false,hwu]
 refine ⟨by kernel_rfl,fun h5=>?_,fun h5=>?_⟩
 ·obtain ⟨h5,h6⟩:=dand h5
  refine ⟨i1 + 1,⟨by omega,by omega,(up_step (p:=(fun v=>!ltI (gd xs pv) v)) (by omega) h6).symm.trans hu3⟩,by omega,?_⟩
  refine .of [(0,some 0)] [] rfl (by first | rfl | (rw [hst];rfl)) ?_ ?_
  all_goals (try exact clA)
 have hu5:=dandn h5
 have hu4:up (fun v=>!ltI (gd xs pv) v) n zs (n + 1 - (m)) (m) = i1:=hu3.symm.trans (up_stop _ (fun h=>hu5 ⟨by omega,h.2⟩))
 clear h5 hu3
 refine W_loopF mixm (α:=Nat) [10,43] (fun j=>j≤n∧i1≤j + 1∧dn (fun v=>!ltI (gd xs pv) v) i1 zs (j + 1 - i1) j = dn (fun v=>!ltI (gd xs pv) v) i1 zs (n + 1 - i1) (n)) (fun j=>[(10,vI j)]) (fun j=>[(0,.arr 1 (zs.map vI) false)]) (fun j=>j + 1 - i1) (n) ⟨Nat.le_refl _,by omega,rfl⟩ ?_ fun j1 hj=>?_
 ·refine .of [(0,some 0)] [] rfl (by first | rfl | (rw [hst];rfl)) ?_ ?_
  all_goals (try exact clA)
 obtain ⟨hd1,hd2,hd3⟩:=hj
 have hwd:i1≤j1→IntKind.i64.wrap ((j1:Int) - 1) = ((j1 - 1:Nat):Int):=fun h=>by rw [IntWalk.i64_in _ (by omega)];omega
 simp only [tl,tl2,tl4,↓un_u,isCallR,entX,argFr,ret,retI,retB,intT,unT,endR,ressR,resR,tupT,bslR,boxR,lenAll,↓reduceIte,Nat.reduceEqDiff,Nat.reduceAdd,Nat.reduceMul,Nat.reduceLT,Nat.reduceLeDiff,reduceCtorEq,Int.reduceLE,Int.reduceLT,ne_eq,Int.reduceEq,not_false_eq_true,decide_true,decide_false,Int.reduceToNat,tl3,Int.reduceBNe,Int.reduceBEq,rmK,rm1,not_true_eq_false,Int.toNat_natCast,gdT_int (show a < zs.length by omega),cellT_int,g2]
 refine ⟨fun h=>by have:=of_decide_eq_true h;omega,fun h=>by have:=of_decide_eq_true h;omega,fun h=>by have:=of_decide_eq_true h;omega,fun h=>by have:=of_decide_eq_true h;omega,?_⟩
 refine C2.im (r:=vB (ltI (gd xs pv) (gd zs j1))) (fun h=>by have:=of_decide_eq_true h;rw [gdT_int (show j1 < zs.length by omega)];exact c_cmp_Less_int (gd xs pv) (gd zs j1)) (fun h=>by have:=of_decide_eq_true h;rw [gdT_int (show j1 < zs.length by omega)];rfl) rfl ?_
 refine sW ?_
 refine ⟨by kernel_rfl,fun h5=>?_,fun h5=>?_⟩
 ·obtain ⟨h5,h6⟩:=dand h5
  rw [hwd (by omega)]
  refine ⟨j1 - 1,⟨by omega,by omega,(dn_step (p:=(fun v=>!ltI (gd xs pv) v)) (by omega) (by omega) (by show (!ltI (gd xs pv) (gd zs j1)) = false;rw [h6];rfl)).symm.trans hd3⟩,by omega,?_⟩
  refine .of [(0,some 0)] [] rfl (by first | rfl | (rw [hst];rfl)) ?_ ?_
  all_goals (try exact clA)
 have hd5:=dandn h5
 have hd4:dn (fun v=>!ltI (gd xs pv) v) i1 zs (n + 1 - i1) (n) = j1:=hd3.symm.trans (dn_stop _ (fun h=>hd5 ⟨by omega,(by have h7:(!ltI (gd xs pv) (gd zs j1)) = false:=h.2;simpa using h7)⟩))
 clear h5 hd3
 simp only [tl,tl2,tl4,↓un_u,isCallR,entX,argFr,ret,retI,retB,intT,unT,endR,ressR,resR,tupT,bslR,boxR,lenAll,↓reduceIte,Nat.reduceEqDiff,Nat.reduceAdd,Nat.reduceMul,Nat.reduceLT,Nat.reduceLeDiff,reduceCtorEq,Int.reduceLE,Int.reduceLT,ne_eq,Int.reduceEq,not_false_eq_true,decide_true,decide_false,Int.reduceToNat,tl3,Int.reduceBNe,Int.reduceBEq,rmK,rm1,not_true_eq_false,decide_eq_true_eq,decide_eq_false_iff_not]
 obtain ⟨f,rfl⟩:∃ k,f = k + 1:=⟨f - 1,by omega⟩
 rw [prt,hu4,hd4] at g7
 refine ⟨fun h5=>?_,fun h5=>?_⟩
 ·rw [if_pos (by omega)] at g7
  have e1:R.1 = zs:=by rw [← g7]
  have e2:R.2.1 = i1:=by rw [← g7]
  rw [hpo,e1,e2]
  refine .of [(0,some 0)] [] rfl (by first | rfl | (rw [hst];rfl)) ?_ ?_
  all_goals (try exact clA)
 ·rw [if_neg (by omega)] at g7
  have hij:i1 < j1:=by
   by_cases h:i1 = j1
   ·exfalso;subst h
    cases hv:ltI (gd xs pv) (gd zs i1) with
    | false=>exact hu5 ⟨by omega,by rw [hv];rfl⟩
    | true=>exact hd5 ⟨by omega,hv⟩
   ·omega
  have hwi:=i64_succ (i:=i1) (by omega)
  have hwj:IntKind.i64.wrap ((j1:Int) - 1) = ((j1 - 1:Nat):Int):=by rw [IntWalk.i64_in _ (by omega)];omega
  have hss:(zs.set i1 (gd zs j1)).length = zs.length:=List.length_set
  simp only [tl,tl2,tl4,↓un_u,isCallR,entX,argFr,ret,retI,retB,intT,unT,endR,ressR,resR,tupT,bslR,boxR,lenAll,↓reduceIte,Nat.reduceEqDiff,Nat.reduceAdd,Nat.reduceMul,Nat.reduceLT,Nat.reduceLeDiff,reduceCtorEq,Int.reduceLE,Int.reduceLT,ne_eq,Int.reduceEq,not_false_eq_true,decide_true,decide_false,Int.reduceToNat,tl3,Int.reduceBNe,Int.reduceBEq,rmK,rm1,not_true_eq_false,Int.toNat_natCast,gdT_int (show i1 < zs.length by omega),gdT_int (show j1 < zs.length by omega),replT_int,cellT_int,setT_int,gdT_int (show j1 < (zs.set i1 (gd zs j1)).length by omega),swpT_int,hwi,hwj]
  have hzl:=swp_len zs i1 j1
  have hgz:gd (swp zs i1 j1) a = gd xs pv:=by rw [gd_swp (by omega) (by omega),if_neg (by omega),if_neg (by omega),g2]
  refine ⟨by omega,by omega,by omega,by omega,by omega,by omega,by omega,by omega,by kernel_rfl,(swp zs i1 j1,i1 + 1,j1 - 1,f),⟨by dsimp only;omega,hgz,by dsimp only;omega,by dsimp only;omega,by dsimp only;omega,by dsimp only;omega,g7⟩,by dsimp only;omega,?_⟩
  refine .of [(0,some 0)] [] rfl (by first | rfl | (rw [hst];rfl)) ?_ ?_
  all_goals (try exact clA)
theorem c_slices_partialInsertionSortOrdered_int (xs:List Int) (a b:Nat) (hab:a < b) (hb:b≤xs.length) (hl:xs.length < 2305843009213693952) :
 Spc Tryd.prog F_slices_partialInsertionSortOrdered_int [.asl 0 xs.length,vI a,vI b] [(0,.arr 1 (xs.map vI) false)] (vB (pins ltI a b 5 (a + 1) xs).2) [(0,.arr 1 ((pins ltI a b 5 (a + 1) xs).1.map vI) false)]:=by
 have hw1:IntKind.i64.wrap ((a:Int) + 1) = ((a + 1:Nat):Int):=i64_succ (by omega)
 refine spec_of_cut [18] fn_slices_partialInsertionSortOrdered_int mixm (by simp) fun e _ hst=>W_start ?_
 unfold ir_slices_partialInsertionSortOrdered_int
 simp only [cutAt,List.contains_cons,List.contains_nil,Nat.reduceBEq,Bool.or_false,Bool.or_true,Bool.true_or,Bool.false_or,cond_true,cond_false]
 simp only [tl,tl2,tl4,↓un_u,isCallR,entX,argFr,ret,retI,retB,intT,unT,endR,ressR,resR,tupT,bslR,boxR,lenAll,↓reduceIte,Nat.reduceEqDiff,Nat.reduceAdd,Nat.reduceMul,Nat.reduceLT,Nat.reduceLeDiff,reduceCtorEq,Int.reduceLE,Int.reduceLT,ne_eq,Int.reduceEq,not_false_eq_true,decide_true,decide_false,Int.reduceToNat,tl3,Int.reduceBNe,Int.reduceBEq,rmK,rm1,not_true_eq_false,hw1]
 refine W_loopF mixm (α:=List Int×Nat×Nat) [7,8] (fun q=>q.1.length = xs.length∧a < q.2.1∧q.2.1≤b∧q.2.2≤5∧pins ltI a b q.2.2 q.2.1 q.1 = pins ltI a b 5 (a + 1) xs) (fun q=>[(7,vI q.2.1),(8,vI (5 - (q.2.2:Int)))]) (fun q=>[(0,.arr 1 (q.1.map vI) false)]) (fun q=>q.2.2) (xs,a + 1,5) ⟨rfl,by dsimp only;omega,by dsimp only;omega,Nat.le_refl _,rfl⟩ ?_ fun q hq=>?_
 ·refine .of [(0,some 0)] [] rfl (by first | rfl | (rw [hst];rfl)) ?_ ?_
  all_goals (try exact clA)
 obtain ⟨ys,i,k⟩:=q
 obtain ⟨h1,h2,h3,h4,h5⟩:=hq
 dsimp only at h1 h2 h3 h4 h5
 simp only [tl,tl2,tl4,↓un_u,isCallR,entX,argFr,ret,retI,retB,intT,unT,endR,ressR,resR,tupT,bslR,boxR,lenAll,↓reduceIte,Nat.reduceEqDiff,Nat.reduceAdd,Nat.reduceMul,Nat.reduceLT,Nat.reduceLeDiff,reduceCtorEq,Int.reduceLE,Int.reduceLT,ne_eq,Int.reduceEq,not_false_eq_true,decide_true,decide_false,Int.reduceToNat,tl3,Int.reduceBNe,Int.reduceBEq,rmK,rm1,not_true_eq_false,decide_eq_true_eq,decide_eq_false_iff_not]
 refine ⟨fun h6=>?_,fun h6=>?_⟩
 ·obtain ⟨k,rfl⟩:∃ j,k = j + 1:=⟨k - 1,by omega⟩
  rw [pins] at h5
  refine W_loopF mixm (α:=Nat) [7,14] (fun m=>i≤m∧m≤b∧upA ltI b ys (b - m) m = upA ltI b ys (b - i) i) (fun m=>[(7,vI m)]) (fun m=>[(0,.arr 1 (ys.map vI) false)]) (fun m=>b - m) i ⟨Nat.le_refl _,by omega,rfl⟩ ?_ fun m hm=>?_
  ·refine .of [(0,some 0)] [] rfl (by first | rfl | (rw [hst];rfl)) ?_ ?_
   all_goals (try exact clA)
  obtain ⟨g1,g2,g3⟩:=hm
  have hwm:=i64_succ (i:=m) (by omega)
  have hwp:IntKind.i64.wrap ((m:Int) - 1) = ((m - 1:Nat):Int):=by rw [IntWalk.i64_in _ (by omega)];omega
  simp only [tl,tl2,tl4,↓un_u,isCallR,entX,argFr,ret,retI,retB,intT,unT,endR,ressR,resR,tupT,bslR,boxR,lenAll,↓reduceIte,Nat.reduceEqDiff,Nat.reduceAdd,Nat.reduceMul,Nat.reduceLT,Nat.reduceLeDiff,reduceCtorEq,Int.reduceLE,Int.reduceLT,ne_eq,Int.reduceEq,not_false_eq_true,decide_true,decide_false,Int.reduceToNat,tl3,Int.reduceBNe,Int.reduceBEq,rmK,rm1,not_true_eq_false,hwp,Int.toNat_natCast,gdT_int (show m - 1 < ys.length by omega),cellT_int]
  refine ⟨fun h=>by have:=of_decide_eq_true h;omega,fun h=>by have:=of_decide_eq_true h;omega,fun h=>by omega,fun h=>by omega,?_⟩
  refine C2.im (r:=vB (ltI (gd ys m) (gd ys (m - 1)))) (fun h=>by have:=of_decide_eq_true h;rw [gdT_int (show m < ys.length by omega)];exact c_cmp_Less_int (gd ys m) (gd ys (m - 1))) (fun h=>by have:=of_decide_eq_true h;rw [gdT_int (show m < ys.length by omega)];rfl) rfl ?_
  simp only [tl,tl2,tl4,↓un_u,isCallR,entX,argFr,ret,retI,retB,intT,unT,endR,ressR,resR,tupT,bslR,boxR,lenAll,↓reduceIte,Nat.reduceEqDiff,Nat.reduceAdd,Nat.reduceMul,Nat.reduceLT,Nat.reduceLeDiff,reduceCtorEq,Int.reduceLE,Int.reduceLT,ne_eq,Int.reduceEq,not_false_eq_true,decide_true,decide_false,Int.reduceToNat,tl3,Int.reduceBNe,Int.reduceBEq,rmK,rm1,not_true_eq_false,hwm]
  refine ⟨by kernel_rfl,fun h7=>?_,fun h7=>?_⟩
  ·obtain ⟨h7,h8⟩:=dand h7
   rw [Bool.not_eq_true'] at h8
   refine ⟨m + 1,⟨by omega,by omega,(upA_step (by omega) h8).symm.trans g3⟩,by omega,?_⟩
   refine .of [(0,some 0)] [] rfl (by first | rfl | (rw [hst];rfl)) ?_ ?_
   all_goals (try exact clA)
  have h8:=dandn h7
  rw [← g3,upA_stop _ (fun h=>h8 ⟨by omega,by have h9:ltI (gd ys m) (gd ys (m - 1)) = false:=h.2;rw [h9];rfl⟩)] at h5
  clear h7 h8 g3
  simp only [tl,tl2,tl4,↓un_u,isCallR,entX,argFr,ret,retI,retB,intT,unT,endR,ressR,resR,tupT,bslR,boxR,lenAll,↓reduceIte,Nat.reduceEqDiff,Nat.reduceAdd,Nat.reduceMul,Nat.reduceLT,Nat.reduceLeDiff,reduceCtorEq,Int.reduceLE,Int.reduceLT,ne_eq,Int.reduceEq,not_false_eq_true,decide_true,decide_false,Int.reduceToNat,tl3,Int.reduceBNe,Int.reduceBEq,rmK,rm1,not_true_eq_false,decide_eq_true_eq,decide_eq_false_iff_not]
  refine ⟨fun h7=>?_,fun h7=>?_⟩
  ·have h7:=beq_iff_eq.1 h7
   rw [if_pos (by omega)] at h5
   rw [← h5]
   refine .of [(0,some 0)] [] rfl (by first | rfl | (rw [hst];rfl)) ?_ ?_
   all_goals (try exact clA)
  have h7:=beq_eq_false_iff_ne.1 h7
  rw [if_neg (by omega)] at h5
  have hwb:IntKind.i64.wrap ((b:Int) - a) = ((b - a:Nat):Int):=by rw [IntWalk.i64_in _ (by omega)];omega
  simp only [tl,tl2,tl4,↓un_u,isCallR,entX,argFr,ret,retI,retB,intT,unT,endR,ressR,resR,tupT,bslR,boxR,lenAll,↓reduceIte,Nat.reduceEqDiff,Nat.reduceAdd,Nat.reduceMul,Nat.reduceLT,Nat.reduceLeDiff,reduceCtorEq,Int.reduceLE,Int.reduceLT,ne_eq,Int.reduceEq,not_false_eq_true,decide_true,decide_false,Int.reduceToNat,tl3,Int.reduceBNe,Int.reduceBEq,rmK,rm1,not_true_eq_false,decide_eq_true_eq,decide_eq_false_iff_not,hwb]
  refine ⟨fun h8=>?_,fun h8=>?_⟩
  ·rw [if_pos (by omega)] at h5
   rw [← h5]
   refine .of [(0,some 0)] [] rfl (by first | rfl | (rw [hst];rfl)) ?_ ?_
   all_goals (try exact clA)
  rw [if_neg (by omega)] at h5
  have hss:(ys.set m (gd ys (m - 1))).length = ys.length:=List.length_set
  have hwma:IntKind.i64.wrap ((m:Int) - a) = ((m - a:Nat):Int):=by rw [IntWalk.i64_in _ (by omega)];omega
  have hswl:=swp_len ys m (m - 1)
  simp only [tl,tl2,tl4,↓un_u,isCallR,entX,argFr,ret,retI,retB,intT,unT,endR,ressR,resR,tupT,bslR,boxR,lenAll,↓reduceIte,Nat.reduceEqDiff,Nat.reduceAdd,Nat.reduceMul,Nat.reduceLT,Nat.reduceLeDiff,reduceCtorEq,Int.reduceLE,Int.reduceLT,ne_eq,Int.reduceEq,not_false_eq_true,decide_true,decide_false,Int.reduceToNat,tl3,Int.reduceBNe,Int.reduceBEq,rmK,rm1,not_true_eq_false,hwp,hwma,Int.toNat_natCast,gdT_int (show m < ys.length by omega),gdT_int (show m - 1 < ys.length by omega),replT_int,cellT_int,setT_int,gdT_int (show m - 1 < (ys.set m (gd ys (m - 1))).length by omega),swpT_int]
  refine ⟨by omega,by omega,by omega,by omega,by omega,by omega,by omega,by omega,by kernel_rfl,?_⟩
  generalize swp ys m (m - 1) = zs at *
  have hpl:(pnsL ltI a m zs).length = xs.length:=by
   rw [pnsL]
   split
   ·rw [(insJ_sw ltI (a:=0) (b:=b) (m - 1) zs (by omega) (by omega) (by omega)).len];omega
   ·omega
  refine ⟨fun h9=>?_,fun h9=>?_⟩
  rotate_left
  have hL:pnsL ltI a m zs = zs:=by rw [pnsL,if_neg (by omega)]
  refine W_le [(0,.asl 0 xs.length),(1,vI a),(2,vI b),(7,vI m),(8,vI (5 - ((k + 1:Nat):Int)))] [(0,.arr 1 ((pnsL ltI a m zs).map vI) false)] ?_ ?_
  ·rw [hL]
   refine .of [(0,some 0)] [] rfl (by first | rfl | (rw [hst];rfl)) ?_ ?_
   all_goals (try exact clA)
  rotate_left
  have hL:pnsL ltI a m zs = insJ ltI 0 (m - 1) zs:=by rw [pnsL,if_pos (by omega)]
  refine W_loopF mixm (α:=List Int×Nat) [9,61] (fun q=>q.1.length = xs.length∧q.2≤m - 1∧insJ ltI 0 q.2 q.1 = insJ ltI 0 (m - 1) zs) (fun q=>[(9,vI q.2)]) (fun q=>[(0,.arr 1 (q.1.map vI) false)]) (fun q=>q.2) (zs,m - 1) ⟨by dsimp only;omega,Nat.le_refl _,rfl⟩ ?_ fun q hq=>?_
  ·refine .of [(0,some 0)] [] rfl (by first | rfl | (rw [hst];rfl)) ?_ ?_
   all_goals (try exact clA)
  obtain ⟨us,j⟩:=q
  obtain ⟨e1,e2,e3⟩:=hq
  dsimp only at e1 e2 e3
  simp only [tl,tl2,tl4,↓un_u,isCallR,entX,argFr,ret,retI,retB,intT,unT,endR,ressR,resR,tupT,bslR,boxR,lenAll,↓reduceIte,Nat.reduceEqDiff,Nat.reduceAdd,Nat.reduceMul,Nat.reduceLT,Nat.reduceLeDiff,reduceCtorEq,Int.reduceLE,Int.reduceLT,ne_eq,Int.reduceEq,not_false_eq_true,decide_true,decide_false,Int.reduceToNat,tl3,Int.reduceBNe,Int.reduceBEq,rmK,rm1,not_true_eq_false,decide_eq_true_eq,decide_eq_false_iff_not]
  refine ⟨fun h10=>?_,fun h10=>?_⟩
  rotate_left
  obtain rfl:j = 0:=by omega
  rw [insJ,← hL] at e3
  refine W_le [(0,.asl 0 xs.length),(1,vI a),(2,vI b),(7,vI m),(8,vI (5 - ((k + 1:Nat):Int)))] [(0,.arr 1 ((pnsL ltI a m zs).map vI) false)] ?_ ?_
  ·rw [← e3]
   refine .of [(0,some 0)] [] rfl (by first | rfl | (rw [hst];rfl)) ?_ ?_
   all_goals (try exact clA)
  rotate_right
  obtain ⟨j,rfl⟩:∃ k,j = k + 1:=⟨j - 1,by omega⟩
  have hwj:IntKind.i64.wrap (((j + 1:Nat):Int) - 1) = (j:Int):=by rw [IntWalk.i64_in _ (by omega)];omega
  rw [insJ] at e3
  simp only [tl,tl2,tl4,↓un_u,isCallR,entX,argFr,ret,retI,retB,intT,unT,endR,ressR,resR,tupT,bslR,boxR,lenAll,↓reduceIte,Nat.reduceEqDiff,Nat.reduceAdd,Nat.reduceMul,Nat.reduceLT,Nat.reduceLeDiff,reduceCtorEq,Int.reduceLE,Int.reduceLT,ne_eq,Int.reduceEq,not_false_eq_true,decide_true,decide_false,Int.reduceToNat,tl3,Int.reduceBNe,Int.reduceBEq,rmK,rm1,not_true_eq_false,hwj,Int.toNat_natCast,gdT_int (show j < us.length by omega),gdT_int (show j + 1 < us.length by omega),cellT_int]
  refine ⟨by omega,by omega,by omega,by omega,?_⟩
  refine C1.im (c_cmp_Less_int (gd us (j + 1)) (gd us j)) (by rfl) (by rfl) ?_
  simp only [tl,tl2,tl4,↓un_u,isCallR,entX,argFr,ret,retI,retB,intT,unT,endR,ressR,resR,tupT,bslR,boxR,lenAll,↓reduceIte,Nat.reduceEqDiff,Nat.reduceAdd,Nat.reduceMul,Nat.reduceLT,Nat.reduceLeDiff,reduceCtorEq,Int.reduceLE,Int.reduceLT,ne_eq,Int.reduceEq,not_false_eq_true,decide_true,decide_false,Int.reduceToNat,tl3,Int.reduceBNe,Int.reduceBEq,rmK,rm1,not_true_eq_false,Bool.not_eq_true',Bool.not_eq_false']
  refine ⟨by kernel_rfl,fun h11=>?_,fun h11=>?_⟩
  rotate_left
  ·rw [if_pos ⟨by omega,h11⟩] at e3
   have hsu:(us.set (j + 1) (gd us j)).length = us.length:=List.length_set
   have hul:=swp_len us (j + 1) j
   simp only [tl,tl2,tl4,↓un_u,isCallR,entX,argFr,ret,retI,retB,intT,unT,endR,ressR,resR,tupT,bslR,boxR,lenAll,↓reduceIte,Nat.reduceEqDiff,Nat.reduceAdd,Nat.reduceMul,Nat.reduceLT,Nat.reduceLeDiff,reduceCtorEq,Int.reduceLE,Int.reduceLT,ne_eq,Int.reduceEq,not_false_eq_true,decide_true,decide_false,Int.reduceToNat,tl3,Int.reduceBNe,Int.reduceBEq,rmK,rm1,not_true_eq_false,hwj,Int.toNat_natCast,gdT_int (show j + 1 < us.length by omega),gdT_int (show j < us.length by omega),replT_int,cellT_int,setT_int,gdT_int (show j < (us.set (j + 1) (gd us j)).length by omega),swpT_int]
   refine ⟨by omega,by omega,by omega,by omega,by omega,by omega,by omega,by omega,by kernel_rfl,(swp us (j + 1) j,j),⟨by dsimp only;omega,by dsimp only;omega,e3⟩,by dsimp only;omega,?_⟩
   refine .of [(0,some 0)] [] rfl (by first | rfl | (rw [hst];rfl)) ?_ ?_
   all_goals (try exact clA)
  rotate_right
  rw [if_neg (fun e=>by rw [h11] at e;exact absurd e.2 (by simp)),← hL] at e3
  refine W_le [(0,.asl 0 xs.length),(1,vI a),(2,vI b),(7,vI m),(8,vI (5 - ((k + 1:Nat):Int)))] [(0,.arr 1 ((pnsL ltI a m zs).map vI) false)] ?_ ?_
  ·rw [← e3]
   refine .of [(0,some 0)] [] rfl (by first | rfl | (rw [hst];rfl)) ?_ ?_
   all_goals (try exact clA)
  all_goals clear hL
  all_goals generalize pnsL ltI a m zs = ps at *
  all_goals have hwbm:IntKind.i64.wrap ((b:Int) - m) = ((b - m:Nat):Int):=by rw [IntWalk.i64_in _ (by omega)];omega
  all_goals have hwk:IntKind.i64.wrap ((5:Int) - ((k + 1:Nat):Int) + 1) = 5 - (k:Int):=by rw [IntWalk.i64_in _ (by omega)];omega
  all_goals have hwm:=i64_succ (i:=m) (by omega)
  all_goals
   simp only [tl,tl2,tl4,↓un_u,isCallR,entX,argFr,ret,retI,retB,intT,unT,endR,ressR,resR,tupT,bslR,boxR,lenAll,↓reduceIte,Nat.reduceEqDiff,Nat.reduceAdd,Nat.reduceMul,Nat.reduceLT,Nat.reduceLeDiff,reduceCtorEq,Int.reduceLE,Int.reduceLT,ne_eq,Int.reduceEq,not_false_eq_true,decide_true,decide_false,Int.reduceToNat,tl3,Int.reduceBNe,Int.reduceBEq,rmK,rm1,not_true_eq_false,decide_eq_true_eq,decide_eq_false_iff_not,hwbm,hwk,hwm]
   refine ⟨fun h9=>?_,fun h9=>?_⟩
   ·have hR:pnsR ltI b m ps = shR ltI b (b - (m + 1)) (m + 1) ps:=by rw [pnsR,if_pos (by omega)]
    refine W_loopF mixm (α:=List Int×Nat) [10,98] (fun q=>q.1.length = xs.length∧m + 1≤q.2∧q.2≤b∧shR ltI b (b - q.2) q.2 q.1 = shR ltI b (b - (m + 1)) (m + 1) ps) (fun q=>[(10,vI q.2)]) (fun q=>[(0,.arr 1 (q.1.map vI) false)]) (fun q=>b - q.2) (ps,m + 1) ⟨hpl,Nat.le_refl _,by dsimp only;omega,rfl⟩ ?_ fun q hq=>?_
    ·refine .of [(0,some 0)] [] rfl (by first | rfl | (rw [hst];rfl)) ?_ ?_
     all_goals (try exact clA)
    obtain ⟨vs,n⟩:=q
    obtain ⟨f1,f2,f3,f4⟩:=hq
    dsimp only at f1 f2 f3 f4
    rw [← hR] at f4
    simp only [tl,tl2,tl4,↓un_u,isCallR,entX,argFr,ret,retI,retB,intT,unT,endR,ressR,resR,tupT,bslR,boxR,lenAll,↓reduceIte,Nat.reduceEqDiff,Nat.reduceAdd,Nat.reduceMul,Nat.reduceLT,Nat.reduceLeDiff,reduceCtorEq,Int.reduceLE,Int.reduceLT,ne_eq,Int.reduceEq,not_false_eq_true,decide_true,decide_false,Int.reduceToNat,tl3,Int.reduceBNe,Int.reduceBEq,rmK,rm1,not_true_eq_false,decide_eq_true_eq,decide_eq_false_iff_not]
    refine ⟨fun h12=>?_,fun h12=>?_⟩
    ·have hwn:IntKind.i64.wrap ((n:Int) - 1) = ((n - 1:Nat):Int):=by rw [IntWalk.i64_in _ (by omega)];omega
     have hwn1:=i64_succ (i:=n) (by omega)
     rw [show b - n = (b - (n + 1)) + 1 by omega,shR] at f4
     simp only [tl,tl2,tl4,↓un_u,isCallR,entX,argFr,ret,retI,retB,intT,unT,endR,ressR,resR,tupT,bslR,boxR,lenAll,↓reduceIte,Nat.reduceEqDiff,Nat.reduceAdd,Nat.reduceMul,Nat.reduceLT,Nat.reduceLeDiff,reduceCtorEq,Int.reduceLE,Int.reduceLT,ne_eq,Int.reduceEq,not_false_eq_true,decide_true,decide_false,Int.reduceToNat,tl3,Int.reduceBNe,Int.reduceBEq,rmK,rm1,not_true_eq_false,hwn,hwn1,hwk,Int.toNat_natCast,gdT_int (show n < vs.length by omega),gdT_int (show n - 1 < vs.length by omega),cellT_int]
     refine ⟨by omega,by omega,by omega,by omega,?_⟩
     refine C1.im (c_cmp_Less_int (gd vs n) (gd vs (n - 1))) (by rfl) (by rfl) ?_
     simp only [tl,tl2,tl4,↓un_u,isCallR,entX,argFr,ret,retI,retB,intT,unT,endR,ressR,resR,tupT,bslR,boxR,lenAll,↓reduceIte,Nat.reduceEqDiff,Nat.reduceAdd,Nat.reduceMul,Nat.reduceLT,Nat.reduceLeDiff,reduceCtorEq,Int.reduceLE,Int.reduceLT,ne_eq,Int.reduceEq,not_false_eq_true,decide_true,decide_false,Int.reduceToNat,tl3,Int.reduceBNe,Int.reduceBEq,rmK,rm1,not_true_eq_false,Bool.not_eq_true',Bool.not_eq_false']
     refine ⟨by kernel_rfl,fun h13=>?_,fun h13=>?_⟩
     ·rw [if_neg (fun e=>by rw [h13] at e;exact absurd e.2 (by simp))] at f4
      rw [← f4] at h5
      simp only [tl,tl2,tl4,↓un_u,isCallR,entX,argFr,ret,retI,retB,intT,unT,endR,ressR,resR,tupT,bslR,boxR,lenAll,↓reduceIte,Nat.reduceEqDiff,Nat.reduceAdd,Nat.reduceMul,Nat.reduceLT,Nat.reduceLeDiff,reduceCtorEq,Int.reduceLE,Int.reduceLT,ne_eq,Int.reduceEq,not_false_eq_true,decide_true,decide_false,Int.reduceToNat,tl3,Int.reduceBNe,Int.reduceBEq,rmK,rm1,not_true_eq_false,hwk]
      refine ⟨(vs,m,k),⟨by dsimp only;omega,by dsimp only;omega,by dsimp only;omega,by dsimp only;omega,h5⟩,by dsimp only;omega,?_⟩
      refine .of [(0,some 0)] [] rfl (by first | rfl | (rw [hst];rfl)) ?_ ?_
      all_goals (try exact clA)
     ·rw [if_pos ⟨by omega,h13⟩] at f4
      have hsu:(vs.set n (gd vs (n - 1))).length = vs.length:=List.length_set
      have hul:=swp_len vs n (n - 1)
      simp only [tl,tl2,tl4,↓un_u,isCallR,entX,argFr,ret,retI,retB,intT,unT,endR,ressR,resR,tupT,bslR,boxR,lenAll,↓reduceIte,Nat.reduceEqDiff,Nat.reduceAdd,Nat.reduceMul,Nat.reduceLT,Nat.reduceLeDiff,reduceCtorEq,Int.reduceLE,Int.reduceLT,ne_eq,Int.reduceEq,not_false_eq_true,decide_true,decide_false,Int.reduceToNat,tl3,Int.reduceBNe,Int.reduceBEq,rmK,rm1,not_true_eq_false,hwn,hwn1,Int.toNat_natCast,gdT_int (show n < vs.length by omega),gdT_int (show n - 1 < vs.length by omega),replT_int,cellT_int,setT_int,gdT_int (show n - 1 < (vs.set n (gd vs (n - 1))).length by omega),swpT_int]
      refine ⟨by omega,by omega,by omega,by omega,by omega,by omega,by omega,by omega,by kernel_rfl,(swp vs n (n - 1),n + 1),⟨by dsimp only;omega,by dsimp only;omega,by dsimp only;omega,f4.trans hR⟩,by dsimp only;omega,?_⟩
      refine .of [(0,some 0)] [] rfl (by first | rfl | (rw [hst];rfl)) ?_ ?_
      all_goals (try exact clA)
    ·obtain rfl:n = b:=by omega
     rw [Nat.sub_self,shR] at f4
     rw [← f4] at h5
     simp only [tl,tl2,tl4,↓un_u,isCallR,entX,argFr,ret,retI,retB,intT,unT,endR,ressR,resR,tupT,bslR,boxR,lenAll,↓reduceIte,Nat.reduceEqDiff,Nat.reduceAdd,Nat.reduceMul,Nat.reduceLT,Nat.reduceLeDiff,reduceCtorEq,Int.reduceLE,Int.reduceLT,ne_eq,Int.reduceEq,not_false_eq_true,decide_true,decide_false,Int.reduceToNat,tl3,Int.reduceBNe,Int.reduceBEq,rmK,rm1,not_true_eq_false,hwk]
     refine ⟨(vs,m,k),⟨by dsimp only;omega,by dsimp only;omega,by dsimp only;omega,by dsimp only;omega,h5⟩,by dsimp only;omega,?_⟩
     refine .of [(0,some 0)] [] rfl (by first | rfl | (rw [hst];rfl)) ?_ ?_
     all_goals (try exact clA)
   ·have hR:pnsR ltI b m ps = ps:=by rw [pnsR,if_neg (by omega)]
    rw [hR] at h5
    refine ⟨(ps,m,k),⟨by dsimp only;omega,by dsimp only;omega,by dsimp only;omega,by dsimp only;omega,h5⟩,by dsimp only;omega,?_⟩
    refine .of [(0,some 0)] [] rfl (by first | rfl | (rw [hst];rfl)) ?_ ?_
    all_goals (try exact clA)
 ·obtain rfl:k = 0:=by omega
  rw [pins] at h5
  rw [← h5]
  refine .of [(0,some 0)] [] rfl (by first | rfl | (rw [hst];rfl)) ?_ ?_
  all_goals (try exact clA)
end Go.Proofs
