import Derived.Test.YtgdfndldfmjfhaaDoorS229
set_option linter.unusedSimpArgs false
set_option linter.unusedVariables false
namespace Go.Proofs
open Go Go.TL
open Go.TL.So
set_option maxHeartbeats 2000000
noncomputable def cp_int (xs:List Int) (a b:Nat):Nat×Int:=
 open Classical in if h:a + 12 < b∧b≤xs.length∧xs.length < 65536 then Classical.choose (c_slices_choosePivotOrdered_int xs a b h.1 h.2.1 (by omega)) else (a,0)
noncomputable def br_int (xs:List Int) (a b:Nat):List Int:=
 open Classical in if h:a≤b∧b≤xs.length∧xs.length < 65536 then Classical.choose (c_slices_breakPatternsOrdered_int xs a b h.1 h.2.1 h.2.2) else xs
theorem cp_ok_int (xs:List Int) (a b:Nat) (h1:a + 12 < b) (h2:b≤xs.length):a≤(cp_int xs a b).1∧(cp_int xs a b).1 < b:=by
 unfold cp_int
 split
 ·rename_i h;exact (Classical.choose_spec (c_slices_choosePivotOrdered_int xs a b h.1 h.2.1 (by omega))).1
 ·exact ⟨Nat.le_refl _,by show a < b;omega⟩
theorem br_ok_int (xs:List Int) (a b:Nat) (h1:a≤b) (h2:b≤xs.length):Sw a b xs (br_int xs a b):=by
 unfold br_int
 split
 ·rename_i h;exact (Classical.choose_spec (c_slices_breakPatternsOrdered_int xs a b h.1 h.2.1 h.2.2)).1
 ·exact .refl xs
theorem br_len_int (xs:List Int) (a b:Nat):(br_int xs a b).length = xs.length:=by
 unfold br_int
 split
 ·rename_i h;exact (Classical.choose_spec (c_slices_breakPatternsOrdered_int xs a b h.1 h.2.1 h.2.2)).1.len
 ·rfl
theorem c_cp_int (xs:List Int) (a b:Nat) (h1:a + 12 < b) (h2:b≤xs.length) (h3:xs.length < 65536) :
 Spc Tryd.prog F_slices_choosePivotOrdered_int [.asl 0 xs.length,vI a,vI b] [(0,.arr 1 (xs.map vI) false)] (.tup [vI (cp_int xs a b).1,vI (cp_int xs a b).2]) [(0,.arr 1 (xs.map vI) false)]:=by
 unfold cp_int
 rw [dif_pos ⟨h1,h2,h3⟩]
 exact (Classical.choose_spec (c_slices_choosePivotOrdered_int xs a b h1 h2 (by omega))).2
theorem c_br_int (xs:List Int) (a b:Nat) (h1:a≤b) (h2:b≤xs.length) (h3:xs.length < 65536) :
 Spc Tryd.prog F_slices_breakPatternsOrdered_int [.asl 0 xs.length,vI a,vI b] [(0,.arr 1 (xs.map vI) false)] (.tup []) [(0,.arr 1 ((br_int xs a b).map vI) false)]:=by
 unfold br_int
 rw [dif_pos ⟨h1,h2,h3⟩]
 exact (Classical.choose_spec (c_slices_breakPatternsOrdered_int xs a b h1 h2 h3)).2
theorem c_slices_pdqsortOrdered_int:∀ (F:Nat) (xs:List Int) (a b lim:Nat),a≤b→b≤xs.length→xs.length < 65536→b < a + F→lim < 1000→
 Spc Tryd.prog F_slices_pdqsortOrdered_int [.asl 0 xs.length,vI a,vI b,vI lim] [(0,.arr 1 (xs.map vI) false)] (.tup []) [(0,.arr 1 ((pdq ltI cp_int br_int F xs a b lim true true).map vI) false)]:=by
 intro F
 induction F using Nat.strongRecOn with
 | ind F ih=>
 intro xs a b lim hab hb hl hf hlim
 refine spec_of_cut [10,15,17] fn_slices_pdqsortOrdered_int mixm (by simp) fun e _ hst=>W_start ?_
 unfold ir_slices_pdqsortOrdered_int
 simp only [cutAt,List.contains_cons,List.contains_nil,Nat.reduceBEq,Bool.or_false,Bool.or_true,Bool.true_or,Bool.false_or,cond_true,cond_false]
 refine sW ?_
 generalize hR:pdq ltI cp_int br_int F xs a b lim true true = R
 refine W_loopF mixm (α:=List Int×Nat×Nat×Nat×Bool×Bool×Nat) [1,2,3,8,9] (fun q=>q.1.length = xs.length∧q.2.1≤q.2.2.1∧q.2.2.1≤xs.length∧q.2.2.1 < q.2.1 + q.2.2.2.2.2.2∧q.2.2.2.2.2.2≤F∧q.2.2.2.1 < 1000∧pdq ltI cp_int br_int q.2.2.2.2.2.2 q.1 q.2.1 q.2.2.1 q.2.2.2.1 q.2.2.2.2.1 q.2.2.2.2.2.1 = R)
  (fun q=>[(1,vI q.2.1),(2,vI q.2.2.1),(3,vI q.2.2.2.1),(8,vB q.2.2.2.2.1),(9,vB q.2.2.2.2.2.1)]) (fun q=>[(0,.arr 1 (q.1.map vI) false)]) (fun q=>q.2.2.2.2.2.2) (xs,a,b,lim,true,true,F) ⟨rfl,hab,hb,hf,Nat.le_refl _,hlim,hR⟩ ?_ fun q hq=>?_
 ·refine .of [(0,some 0)] [] rfl (by first | rfl | (rw [hst];rfl)) ?_ ?_
  all_goals (try exact clA)
 clear hR hf hlim
 obtain ⟨ys,a,b,lim,wb,wp,g⟩:=q
 obtain ⟨h1,h2,h3,h4,h5,h6,h7⟩:=hq
 dsimp only at h1 h2 h3 h4 h5 h6 h7
 dsimp only
 obtain ⟨g,rfl⟩:∃ k,g = k + 1:=⟨g - 1,by omega⟩
 have hw1:IntKind.i64.wrap ((b:Int) - a) = ((b - a:Nat):Int):=by rw [IntWalk.i64_in _ (by omega)];omega
 rw [pdq] at h7
 simp only [tl,tl2,tl4,↓un_u,isCallR,entX,argFr,ret,retI,retB,intT,unT,endR,ressR,resR,tupT,bslR,boxR,lenAll,↓reduceIte,Nat.reduceEqDiff,Nat.reduceAdd,Nat.reduceMul,Nat.reduceLT,Nat.reduceLeDiff,reduceCtorEq,Int.reduceLE,Int.reduceLT,ne_eq,Int.reduceEq,not_false_eq_true,decide_true,decide_false,Int.reduceToNat,tl3,Int.reduceBNe,Int.reduceBEq,rmK,rm1,not_true_eq_false,decide_eq_true_eq,decide_eq_false_iff_not,hw1]
 refine ⟨fun h8=>?_,fun h8=>?_⟩
 ·rw [if_pos (by omega)] at h7
  refine C1.upd 0 1 _ _ (c_slices_insertionSortOrdered_int ys a b h2 (by omega) (by omega)) (by rfl) (by apply imXs_map;intro _;exact ⟨rfl,rfl⟩) (by apply imXs_map;intro _;exact ⟨rfl,rfl⟩) (by rw [h1];exact updT_int _ _ (by rfl)) (by rfl) ?_
  refine sW ?_
  rw [← h7]
  refine .of [(0,some 0)] [] rfl (by first | rfl | (rw [hst];rfl)) ?_ ?_
  all_goals (try exact clA)
 rw [if_neg (by omega)] at h7
 refine ⟨fun h9=>?_,fun h9=>?_⟩
 ·have h9:=beq_iff_eq.1 h9
  rw [if_pos (by omega)] at h7
  refine C1.upd 0 1 _ _ (c_slices_heapSortOrdered_int ys a b (by omega) (by omega) (by omega)) (by rfl) (by apply imXs_map;intro _;exact ⟨rfl,rfl⟩) (by apply imXs_map;intro _;exact ⟨rfl,rfl⟩) (by rw [h1];exact updT_int _ _ (by rfl)) (by rfl) ?_
  refine sW ?_
  rw [← h7]
  refine .of [(0,some 0)] [] rfl (by first | rfl | (rw [hst];rfl)) ?_ ?_
  all_goals (try exact clA)
 have h9:=beq_eq_false_iff_ne.1 h9
 rw [if_neg (by omega)] at h7
 obtain ⟨x,l2,hx,hl2,h10⟩:∃ (x:List Int) (l2:Nat),(x = if wb = true then ys else br_int ys a b)∧(l2 = if wb = true then lim else lim - 1)∧pdqP ltI cp_int (pdq ltI cp_int br_int g) x a b l2 wb wp = R:=by
  refine ⟨_,_,rfl,rfl,?_⟩
  rw [← h7]
  cases wb <;> rfl
 clear h7
 have hll:IntKind.i64.wrap ((lim:Int) - 1) = ((lim - 1:Nat):Int):=by rw [IntWalk.i64_in _ (by omega)];omega
 have hxl:x.length = xs.length:=by
  rw [hx]
  split
  ·exact h1
  ·rw [br_len_int];exact h1
 have hl3:l2 < 1000:=by rw [hl2];split <;> omega
 have cbr:=c_br_int ys a b h2 (by omega) (by omega)
 apply mid
 ·intro key
  refine ⟨fun h=>?_,fun h=>?_⟩
  ·have hx':x = br_int ys a b:=by rw [hx,h];rfl
   have hl':l2 = lim - 1:=by rw [hl2,h];rfl
   refine C1.upd 0 1 _ _ cbr (by rfl) (by apply imXs_map;intro _;exact ⟨rfl,rfl⟩) (by apply imXs_map;intro _;exact ⟨rfl,rfl⟩) (by rw [h1];exact updT_int _ _ (by rfl)) (by rfl) ?_
   simp only [tl,tl2,tl4,↓un_u,isCallR,entX,argFr,ret,retI,retB,intT,unT,endR,ressR,resR,tupT,bslR,boxR,lenAll,↓reduceIte,Nat.reduceEqDiff,Nat.reduceAdd,Nat.reduceMul,Nat.reduceLT,Nat.reduceLeDiff,reduceCtorEq,Int.reduceLE,Int.reduceLT,ne_eq,Int.reduceEq,not_false_eq_true,decide_true,decide_false,Int.reduceToNat,tl3,Int.reduceBNe,Int.reduceBEq,rmK,rm1,not_true_eq_false,hll]
   refine W_le [(0,.asl 0 xs.length),(1,vI a),(2,vI b),(3,vI l2),(8,vB wb),(9,vB wp),(10,vI (b - a:Nat))] [(0,.arr 1 (x.map vI) false)] ?_ key
   rw [hx',hl']
   refine .of [(0,some 0)] [] rfl (by first | rfl | (rw [hst];rfl)) ?_ ?_
   all_goals (try exact clA)
  ·rw [Bool.not_eq_false'] at h
   have hx':x = ys:=by rw [hx,h];rfl
   have hl':l2 = lim:=by rw [hl2,h];rfl
   refine W_le [(0,.asl 0 xs.length),(1,vI a),(2,vI b),(3,vI l2),(8,vB wb),(9,vB wp),(10,vI (b - a:Nat))] [(0,.arr 1 (x.map vI) false)] ?_ key
   rw [hx',hl']
   refine .of [(0,some 0)] [] rfl (by first | rfl | (rw [hst];rfl)) ?_ ?_
   all_goals (try exact clA)
 clear hx hl2 hll h9 h1
 have hcp:=cp_ok_int x a b (by omega) (by omega)
 have hcc:=c_cp_int x a b (by omega) (by omega) (by omega)
 rw [pdqP] at h10
 generalize cp_int x a b = cq at *
 obtain ⟨p0,h0⟩:=cq
 dsimp only at hcp hcc h10
 have hwb1:IntKind.i64.wrap ((b:Int) - 1) = ((b - 1:Nat):Int):=by rw [IntWalk.i64_in _ (by omega)];omega
 have hwpa:IntKind.i64.wrap ((p0:Int) - (a:Int)) = ((p0 - a:Nat):Int):=by rw [IntWalk.i64_in _ (by omega)];omega
 have hwpb:IntKind.i64.wrap (((b - 1:Nat):Int) - ((p0 - a:Nat):Int)) = ((b - 1 - (p0 - a):Nat):Int):=by rw [IntWalk.i64_in _ (by omega)];omega
 obtain ⟨y,pv,hint,hy,hpv,hhint,h11⟩:∃ (y:List Int) (pv:Nat) (hint:Int),(y = if h0 = 2 then rvs (b - a) a (b - 1) x else x)∧(pv = if h0 = 2 then b - 1 - (p0 - a) else p0)∧(hint = if h0 = 2 then 1 else h0)∧pdqH ltI (pdq ltI cp_int br_int g) y a b pv hint l2 wb wp = R:=by
  refine ⟨_,_,_,rfl,rfl,rfl,?_⟩
  rw [← h10]
  by_cases e:h0 = 2
  ·rw [if_pos e,if_pos e,if_pos e,if_pos e]
  ·rw [if_neg e,if_neg e,if_neg e,if_neg e]
 clear h10
 have hyl:y.length = xs.length:=by
  rw [hy]
  split
  ·rw [rvs_len];exact hxl
  ·exact hxl
 have hpr:a≤pv∧pv < b:=by
  rw [hpv]
  split <;> omega
 have crv:=c_slices_reverseRangeOrdered_int x a b (by omega) (by omega) (by omega)
 apply mid
 ·intro key
  refine sW ?_
  refine C1.upd 0 1 _ _ hcc (by rfl) (by apply imXs_map;intro _;exact ⟨rfl,rfl⟩) (by apply imXs_map;intro _;exact ⟨rfl,rfl⟩) (by rw [hxl];exact updT_int _ _ (by rfl)) (by rfl) ?_
  refine sW ?_
  refine ⟨fun h=>?_,fun h=>?_⟩
  ·have h:=beq_iff_eq.1 h
   have hy':y = rvs (b - a) a (b - 1) x:=by rw [hy,if_pos h]
   have hp':pv = b - 1 - (p0 - a):=by rw [hpv,if_pos h]
   have hh':hint = 1:=by rw [hhint,if_pos h]
   refine C1.upd 0 1 _ _ crv (by rfl) (by apply imXs_map;intro _;exact ⟨rfl,rfl⟩) (by apply imXs_map;intro _;exact ⟨rfl,rfl⟩) (by rw [hxl];exact updT_int _ _ (by rfl)) (by rfl) ?_
   simp only [tl,tl2,tl4,↓un_u,isCallR,entX,argFr,ret,retI,retB,intT,unT,endR,ressR,resR,tupT,bslR,boxR,lenAll,↓reduceIte,Nat.reduceEqDiff,Nat.reduceAdd,Nat.reduceMul,Nat.reduceLT,Nat.reduceLeDiff,reduceCtorEq,Int.reduceLE,Int.reduceLT,ne_eq,Int.reduceEq,not_false_eq_true,decide_true,decide_false,Int.reduceToNat,tl3,Int.reduceBNe,Int.reduceBEq,rmK,rm1,not_true_eq_false,hwb1,hwpa,hwpb]
   refine W_le [(0,.asl 0 xs.length),(1,vI a),(2,vI b),(3,vI l2),(8,vB wb),(9,vB wp),(10,vI (b - a:Nat)),(11,vI pv),(12,vI hint)] [(0,.arr 1 (y.map vI) false)] ?_ key
   rw [hy',hp',hh']
   refine .of [(0,some 0)] [] rfl (by first | rfl | (rw [hst];rfl)) ?_ ?_
   all_goals (try exact clA)
  ·have h:=beq_eq_false_iff_ne.1 h
   have hy':y = x:=by rw [hy,if_neg h]
   have hp':pv = p0:=by rw [hpv,if_neg h]
   have hh':hint = h0:=by rw [hhint,if_neg h]
   refine W_le [(0,.asl 0 xs.length),(1,vI a),(2,vI b),(3,vI l2),(8,vB wb),(9,vB wp),(10,vI (b - a:Nat)),(11,vI pv),(12,vI hint)] [(0,.arr 1 (y.map vI) false)] ?_ key
   rw [hy',hp',hh']
   refine .of [(0,some 0)] [] rfl (by first | rfl | (rw [hst];rfl)) ?_ ?_
   all_goals (try exact clA)
 clear hy hpv hhint hcp hcc hwpa hwpb hxl
 rw [pdqH] at h11
 have cpn:=c_slices_partialInsertionSortOrdered_int y a b (by omega) (by omega) (by omega)
 have hband:(wb && wp && (hint == 1)) = true↔(wb = true∧wp = true∧hint = 1):=by simp [and_assoc]
 by_cases hc:(wb = true∧wp = true∧hint = 1)∧(pins ltI a b 5 (a + 1) y).2 = true
 ·rw [if_pos hc.1,if_pos hc.2] at h11
  have hcb:=hband.2 hc.1
  simp only [tl,tl2,tl4,↓un_u,isCallR,entX,argFr,ret,retI,retB,intT,unT,endR,ressR,resR,tupT,bslR,boxR,lenAll,↓reduceIte,Nat.reduceEqDiff,Nat.reduceAdd,Nat.reduceMul,Nat.reduceLT,Nat.reduceLeDiff,reduceCtorEq,Int.reduceLE,Int.reduceLT,ne_eq,Int.reduceEq,not_false_eq_true,decide_true,decide_false,Int.reduceToNat,tl3,Int.reduceBNe,Int.reduceBEq,rmK,rm1,not_true_eq_false,hcb]
  refine C1.upd 0 1 _ _ cpn (by rfl) (by apply imXs_map;intro _;exact ⟨rfl,rfl⟩) (by apply imXs_map;intro _;exact ⟨rfl,rfl⟩) (by rw [hyl];exact updT_int _ _ (by rfl)) (by rfl) ?_
  rw [hc.2,h11]
  refine sW ?_
  refine .of [(0,some 0)] [] rfl (by first | rfl | (rw [hst];rfl)) ?_ ?_
  all_goals (try exact clA)
 obtain ⟨z,hz,h12⟩:∃ z:List Int,(z = if wb = true∧wp = true∧hint = 1 then (pins ltI a b 5 (a + 1) y).1 else y)∧pdqG ltI (pdq ltI cp_int br_int g) z a b pv l2 wb wp = R:=by
  refine ⟨_,rfl,?_⟩
  by_cases e:wb = true∧wp = true∧hint = 1
  ·rw [if_pos e,if_neg (fun e2=>hc ⟨e,e2⟩)] at h11
   rw [if_pos e];exact h11
  ·rw [if_neg e] at h11
   rw [if_neg e];exact h11
 have hzl:z.length = xs.length:=by
  rw [hz]
  split
  ·rw [pins_len];exact hyl
  ·exact hyl
 clear h11
 apply mid
 ·intro key
  refine sW ?_
  refine ⟨fun h=>?_,fun h=>?_⟩
  ·have e:=hband.1 h
   have hpf:(pins ltI a b 5 (a + 1) y).2 = false:=by
    cases e2:(pins ltI a b 5 (a + 1) y).2 with
    | false=>rfl
    | true=>exact absurd ⟨e,e2⟩ hc
   have hz':z = (pins ltI a b 5 (a + 1) y).1:=by rw [hz,if_pos e]
   refine C1.upd 0 1 _ _ cpn (by rfl) (by apply imXs_map;intro _;exact ⟨rfl,rfl⟩) (by apply imXs_map;intro _;exact ⟨rfl,rfl⟩) (by rw [hyl];exact updT_int _ _ (by rfl)) (by rfl) ?_
   rw [hpf]
   refine sW ?_
   refine W_le [(0,.asl 0 xs.length),(1,vI a),(2,vI b),(3,vI l2),(8,vB wb),(9,vB wp),(10,vI (b - a:Nat)),(11,vI pv)] [(0,.arr 1 (z.map vI) false)] ?_ key
   rw [hz']
   refine .of [(0,some 0)] [] rfl (by first | rfl | (rw [hst];rfl)) ?_ ?_
   all_goals (try exact clA)
  ·have hz':z = y:=by rw [hz,if_neg (fun e=>by rw [hband.2 e] at h;cases h)]
   refine W_le [(0,.asl 0 xs.length),(1,vI a),(2,vI b),(3,vI l2),(8,vB wb),(9,vB wp),(10,vI (b - a:Nat)),(11,vI pv)] [(0,.arr 1 (z.map vI) false)] ?_ key
   rw [hz']
   refine .of [(0,some 0)] [] rfl (by first | rfl | (rw [hst];rfl)) ?_ ?_
   all_goals (try exact clA)
 clear hz hc cpn hyl hband
 rw [pdqG] at h12
 have hwa1:0 < a→IntKind.i64.wrap ((a:Int) - 1) = ((a - 1:Nat):Int):=fun h=>by rw [IntWalk.i64_in _ (by omega)];omega
 simp only [tl,tl2,tl4,↓un_u,isCallR,entX,argFr,ret,retI,retB,intT,unT,endR,ressR,resR,tupT,bslR,boxR,lenAll,↓reduceIte,Nat.reduceEqDiff,Nat.reduceAdd,Nat.reduceMul,Nat.reduceLT,Nat.reduceLeDiff,reduceCtorEq,Int.reduceLE,Int.reduceLT,ne_eq,Int.reduceEq,not_false_eq_true,decide_true,decide_false,Int.reduceToNat,tl3,Int.reduceBNe,Int.reduceBEq,rmK,rm1,not_true_eq_false,Int.toNat_natCast,gdT_int (show pv < z.length by omega),cellT_int]
 refine ⟨fun h=>by have:=of_decide_eq_true h;rw [hwa1 (by omega)];omega,fun h=>by have:=of_decide_eq_true h;rw [hwa1 (by omega)];omega,fun h=>by omega,fun h=>by omega,?_⟩
 refine C2.im (r:=vB (ltI (gd z (a - 1)) (gd z pv))) (fun h=>by have:=of_decide_eq_true h;rw [hwa1 (by omega),Int.toNat_natCast,gdT_int (show a - 1 < z.length by omega)];exact c_cmp_Less_int (gd z (a - 1)) (gd z pv)) (fun h=>by have:=of_decide_eq_true h;rw [hwa1 (by omega),Int.toNat_natCast,gdT_int (show a - 1 < z.length by omega)];rfl) rfl ?_
 refine sW ?_
 refine ⟨by kernel_rfl,fun h=>?_,fun h=>?_⟩
 ·obtain ⟨h13,h14⟩:=dand h
  rw [Bool.not_eq_true'] at h14
  rw [if_pos ⟨by omega,h14⟩] at h12
  obtain ⟨_,e2,e3,_,_⟩:=partE_spec ltI_ord z hpr.1 hpr.2 (by omega)
  have e1:(partE ltI z a b pv).1.length = z.length:=partE_len
  refine C1.upd 0 1 _ _ (c_slices_partitionEqualOrdered_int z a b pv (by omega) hpr.1 hpr.2 (by omega) (by omega)) (by rfl) (by apply imXs_map;intro _;exact ⟨rfl,rfl⟩) (by apply imXs_map;intro _;exact ⟨rfl,rfl⟩) (by rw [hzl];exact updT_int _ _ (by rfl)) (by rfl) ?_
  generalize partE ltI z a b pv = q at *
  refine sW ?_
  refine ⟨(q.1,q.2,b,l2,wb,wp,g),⟨by dsimp only;omega,by dsimp only;omega,by dsimp only;omega,by dsimp only;omega,by dsimp only;omega,hl3,h12⟩,by dsimp only;omega,?_⟩
  refine .of [(0,some 0)] [] rfl (by first | rfl | (rw [hst];rfl)) ?_ ?_
  all_goals (try exact clA)
 have h13:=dandn h
 rw [if_neg (fun e=>h13 ⟨by omega,by rw [e.2];rfl⟩)] at h12
 clear h h13
 obtain ⟨_,e2,e3,_,_⟩:=partO_spec ltI z hpr.1 hpr.2 (by omega)
 have e1:(partO ltI z a b pv).1.length = z.length:=partO_len
 refine C1.upd 0 1 _ _ (c_slices_partitionOrdered_int z a b pv (by omega) hpr.1 hpr.2 (by omega) (by omega)) (by rfl) (by apply imXs_map;intro _;exact ⟨rfl,rfl⟩) (by apply imXs_map;intro _;exact ⟨rfl,rfl⟩) (by rw [hzl];exact updT_int _ _ (by rfl)) (by rfl) ?_
 generalize partO ltI z a b pv = q at *
 generalize flO ltI z a b pv = fl at *
 obtain ⟨u,m⟩:=q
 dsimp only at e1 e2 e3 h12
 have hwm1:IntKind.i64.wrap ((m:Int) - a) = ((m - a:Nat):Int):=by rw [IntWalk.i64_in _ (by omega)];omega
 have hwm2:IntKind.i64.wrap ((b:Int) - m) = ((b - m:Nat):Int):=by rw [IntWalk.i64_in _ (by omega)];omega
 have hwm3:=i64_succ (i:=m) (by omega)
 have hw8:IntKind.i64.wrap (((b - a:Nat):Int).tdiv 8) = (((b - a) / 8:Nat):Int):=by rw [Int.tdiv_eq_ediv_of_nonneg (by omega),IntWalk.i64_in _ (by omega)];omega
 have hd1:decide (((m - a:Nat):Int)≥(((b - a) / 8:Nat):Int)) = decide ((b - a) / 8≤m - a):=decide_eq_decide.2 (by omega)
 have hd2:decide (((b - m:Nat):Int)≥(((b - a) / 8:Nat):Int)) = decide ((b - a) / 8≤b - m):=decide_eq_decide.2 (by omega)
 have hpl:=fun xs a b l w v=>pdq_len (lt:=ltI) (cp:=cp_int) br_len_int g xs a b l w v
 simp only [tl,tl2,tl4,↓un_u,isCallR,entX,argFr,ret,retI,retB,intT,unT,endR,ressR,resR,tupT,bslR,boxR,lenAll,↓reduceIte,Nat.reduceEqDiff,Nat.reduceAdd,Nat.reduceMul,Nat.reduceLT,Nat.reduceLeDiff,reduceCtorEq,Int.reduceLE,Int.reduceLT,ne_eq,Int.reduceEq,not_false_eq_true,decide_true,decide_false,Int.reduceToNat,tl3,Int.reduceBNe,Int.reduceBEq,rmK,rm1,not_true_eq_false,decide_eq_true_eq,decide_eq_false_iff_not,hwm1,hwm2,hw8]
 refine ⟨fun h=>?_,fun h=>?_⟩
 ·rw [if_pos (by omega)] at h12
  have hih:=ih g (by omega) u a m l2 e2 (by omega) (by omega) (by omega) hl3
  have hpl1:=hpl u a m l2 true true
  simp only [tl,tl2,tl4,↓un_u,isCallR,entX,argFr,ret,retI,retB,intT,unT,endR,ressR,resR,tupT,bslR,boxR,lenAll,↓reduceIte,Nat.reduceEqDiff,Nat.reduceAdd,Nat.reduceMul,Nat.reduceLT,Nat.reduceLeDiff,reduceCtorEq,Int.reduceLE,Int.reduceLT,ne_eq,Int.reduceEq,not_false_eq_true,decide_true,decide_false,Int.reduceToNat,tl3,Int.reduceBNe,Int.reduceBEq,rmK,rm1,not_true_eq_false,hd1]
  refine C1.upd 0 1 _ _ hih (by rfl) (by apply imXs_map;intro _;exact ⟨rfl,rfl⟩) (by apply imXs_map;intro _;exact ⟨rfl,rfl⟩) (by rw [e1,hzl];exact updT_int _ _ (by rfl)) (by rfl) ?_
  simp only [tl,tl2,tl4,↓un_u,isCallR,entX,argFr,ret,retI,retB,intT,unT,endR,ressR,resR,tupT,bslR,boxR,lenAll,↓reduceIte,Nat.reduceEqDiff,Nat.reduceAdd,Nat.reduceMul,Nat.reduceLT,Nat.reduceLeDiff,reduceCtorEq,Int.reduceLE,Int.reduceLT,ne_eq,Int.reduceEq,not_false_eq_true,decide_true,decide_false,Int.reduceToNat,tl3,Int.reduceBNe,Int.reduceBEq,rmK,rm1,not_true_eq_false,hwm3]
  refine ⟨(pdq ltI cp_int br_int g u a m l2 true true,m + 1,b,l2,decide ((b - a) / 8≤m - a),fl,g),⟨by dsimp only;omega,by dsimp only;omega,by dsimp only;omega,by dsimp only;omega,by dsimp only;omega,hl3,h12⟩,by dsimp only;omega,?_⟩
  refine .of [(0,some 0)] [] rfl (by first | rfl | (rw [hst];rfl)) ?_ ?_
  all_goals (try exact clA)
 ·rw [if_neg (by omega)] at h12
  have hih:=ih g (by omega) u (m + 1) b l2 (by omega) (by omega) (by omega) (by omega) hl3
  have hpl1:=hpl u (m + 1) b l2 true true
  simp only [tl,tl2,tl4,↓un_u,isCallR,entX,argFr,ret,retI,retB,intT,unT,endR,ressR,resR,tupT,bslR,boxR,lenAll,↓reduceIte,Nat.reduceEqDiff,Nat.reduceAdd,Nat.reduceMul,Nat.reduceLT,Nat.reduceLeDiff,reduceCtorEq,Int.reduceLE,Int.reduceLT,ne_eq,Int.reduceEq,not_false_eq_true,decide_true,decide_false,Int.reduceToNat,tl3,Int.reduceBNe,Int.reduceBEq,rmK,rm1,not_true_eq_false,hd2,hwm3]
  refine C1.upd 0 1 _ _ hih (by rfl) (by apply imXs_map;intro _;exact ⟨rfl,rfl⟩) (by apply imXs_map;intro _;exact ⟨rfl,rfl⟩) (by rw [e1,hzl];exact updT_int _ _ (by rfl)) (by rfl) ?_
  refine sW ?_
  refine ⟨(pdq ltI cp_int br_int g u (m + 1) b l2 true true,a,m,l2,decide ((b - a) / 8≤b - m),fl,g),⟨by dsimp only;omega,by dsimp only;omega,by dsimp only;omega,by dsimp only;omega,by dsimp only;omega,hl3,h12⟩,by dsimp only;omega,?_⟩
  refine .of [(0,some 0)] [] rfl (by first | rfl | (rw [hst];rfl)) ?_ ?_
  all_goals (try exact clA)
theorem c_slices_Sort_int (xs:List Int) (hl:xs.length < 65536):∃ ys,(ys.Perm xs∧Srt ltI ys 0 xs.length)∧
 Spc Tryd.prog F_slices_Sort_int [.asl 0 xs.length] [(0,.arr 1 (xs.map vI) false)] (.tup []) [(0,.arr 1 (ys.map vI) false)]:=by
 obtain ⟨lim,hlim,hs⟩:=c_math_bits_Len xs.length hl
 refine ⟨pdq ltI cp_int br_int (xs.length + 1) xs 0 xs.length lim true true,pdq_all ltI_ord cp_ok_int br_ok_int xs lim,?_⟩
 have hu:IntKind.u64.wrap (xs.length:Int) = (xs.length:Int):=by rw [IntKind.wrap_u64];omega
 refine spec_of_ir fn_slices_Sort_int mixm (by simp) fun e _ hst=>W_start ?_
 unfold ir_slices_Sort_int
 simp only [tl,tl2,tl4,↓un_u,isCallR,entX,argFr,ret,retI,retB,intT,unT,endR,ressR,resR,tupT,bslR,boxR,lenAll,↓reduceIte,Nat.reduceEqDiff,Nat.reduceAdd,Nat.reduceMul,Nat.reduceLT,Nat.reduceLeDiff,reduceCtorEq,Int.reduceLE,Int.reduceLT,ne_eq,Int.reduceEq,not_false_eq_true,decide_true,decide_false,Int.reduceToNat,tl3,Int.reduceBNe,Int.reduceBEq,rmK,rm1,not_true_eq_false,hu]
 refine C1.im hs (by rfl) (by rfl) ?_
 refine sW ?_
 refine C1.upd 0 1 _ _ (c_slices_pdqsortOrdered_int (xs.length + 1) xs 0 xs.length lim (by omega) (by omega) hl (by omega) (by omega)) (by rfl) (by apply imXs_map;intro _;exact ⟨rfl,rfl⟩) (by apply imXs_map;intro _;exact ⟨rfl,rfl⟩) (updT_int _ _ (by rfl)) (by rfl) ?_
 refine sW ?_
 refine .of [(0,some 0)] [] rfl (by first | rfl | (rw [hst];rfl)) ?_ ?_
 all_goals (try exact clA)
end Go.Proofs
