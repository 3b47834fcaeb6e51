/- A part of the proof: trees of Go values, short forms, contracts. -/
import Derived.WalkKit
import Derived.Still
import Derived.MapKept
import GoSem.Builtin.Cap
import Derived.Laws.Externs
import GoSem.Extern.SlicesOverlaps
import Derived.Carry
import Derived.ProofKit
import Derived.OpenShut
import Derived.HandedShaped
import Derived.Lay
import Derived.LaidLaws
import Derived.MakeChecks
import Derived.SevenTiedAt
import Derived.Test.YtlpllebfjgflaaaGreatDoorChecked
import Derived.Test.YtlpllebfjgflaaaGreatDoorK18
set_option linter.unusedSimpArgs false
set_option linter.unusedVariables false
namespace Go.Proofs
open Go Go.TL
set_option maxRecDepth 4000
section
variable {P:Program} {st:Sto} {e:Env} {kss:List (Nat×List Nat)} {Q:Ex→St→Prop} {K:List KF} {rows:Option (List Nat)} {ks:List Nat} {nid:Nat} {ops:List ROp} {F:XF} {acc:Acc}
theorem C1.cutbackF {fid:FuncId} {caps xs ts':List T} {d:Option Nat} {ys zs bs:List T} {m kj:Nat} {fz:Bool} (id nid' k j:Nat) (hs:Spc P fid ts' [(0,.arr k zs false)] (.asl 1 m) [(0,.dead),(1,.arr k ys false)]) (hg:TL.get st id = some (.arr k zs false)) (hj:TL.get st j = some (.arr kj bs fz)) (hz:ImXs k zs) (hy:ImXs k ys)
 (hn:TL.get st nid' = none) (hne2:id≠j) (ha:ltAs st [(0,some id)] [j] (xs ++ caps) ts')
 (h:R P e kss Q rows ks K nid ops (putX F d (.p (.asl nid' m))) (stUp st [(id,.dead),(nid',.arr k ys false),(j,.arr kj bs true)]) (acc ++ [([j] ++ [id,nid',j],[id,nid',j])])):C1 P e kss Q rows ks K (.clo fid caps) xs d nid ops F st acc:=by
 have hne:id≠nid':=fun e=>by subst e;rw [hg] at hn;cases hn
 have hne3:nid'≠j:=fun e=>by subst e;rw [hj] at hn;cases hn
 refine C1.of [(0,some id)] [(nid',some 1)] [j] [(id,.dead),(nid',.arr k ys false),(j,.arr kj bs true)] hs ha (by simp [renOk,TL.get]) ?_ (by simp;exact fun e=>hne2 e.symm) (by simp [TL.get]) ?_ ?_ (by rfl) ?_ (.inl ?_) h
 ·refine ⟨?_,trivial⟩
  simp only [TL.get,if_true,ltO2,hg,ltO1]
  refine ⟨trivial,by simp,ltXs_refl hz,fun hb=>?_⟩
  simp at hb
  exact absurd hb hne2
 ·refine ⟨?_,?_,trivial⟩
  ·simp only [TL.get,if_true,wrO,ltO1,Nat.reduceEqDiff,↓reduceIte,reduceCtorEq]
   exact ⟨⟨trivial,by simp,ltXs_refl hy,by simp⟩,.inl hn⟩
  ·rw [show TL.get [(nid',some 1)] j = none by simp [TL.get,hne3]]
   refine ⟨rfl,?_,?_⟩
   ·rw [hj];exact ⟨rfl,rfl⟩
   ·intro p hp
    simp at hp
    subst hp
    simp
    exact hne2
 ·simp [renOk,TL.get,hne]
 ·exact ⟨by simp [TL.get],rfl⟩
 ·simp [fzOk,TL.get,hne2,hne3]
theorem C1.cut0 {fid:FuncId} {caps xs ts':List T} {d:Option Nat} {ys zs:List T} {m:Nat} (id nid' k:Nat) (hs:Spc P fid ts' [(0,.arr k zs false)] (.asl 1 m) [(0,.dead),(1,.arr k ys false)]) (hg:TL.get st id = some (.arr k zs false)) (hz:ImXs k zs) (hy:ImXs k ys)
 (hn:TL.get st nid' = none) (ha:ltAs st [(0,some id)] [] (xs ++ caps) ts')
 (h:R P e kss Q rows ks K nid ops (putX F d (.p (.asl nid' m))) (stUp st [(id,.dead),(nid',.arr k ys false)]) (acc ++ [([] ++ [id,nid'],[id,nid'])])):C1 P e kss Q rows ks K (.clo fid caps) xs d nid ops F st acc:=by
 have hne:id≠nid':=fun e=>by subst e;rw [hg] at hn;cases hn
 refine C1.of [(0,some id)] [(nid',some 1)] [] [(id,.dead),(nid',.arr k ys false)] hs ha (by simp [renOk,TL.get]) ?_ (by rfl) (by simp [TL.get]) ?_ ?_ (by rfl) ?_ (.inl (by rfl)) h
 ·refine ⟨?_,trivial⟩
  simp only [TL.get,if_true,ltO2,hg,ltO1]
  exact ⟨trivial,by simp,ltXs_refl hz,by simp⟩
 ·refine ⟨?_,trivial⟩
  simp only [TL.get,if_true,wrO,ltO1,Nat.reduceEqDiff,↓reduceIte,reduceCtorEq]
  exact ⟨⟨trivial,by simp,ltXs_refl hy,by simp⟩,.inl hn⟩
 ·simp [renOk,TL.get,hne]
 ·exact ⟨by simp [TL.get],rfl⟩
end
end Go.Proofs
set_option linter.unusedSimpArgs false
set_option linter.unusedVariables false
namespace Go.Proofs
open Go Go.TL
set_option maxRecDepth 4000
set_option maxHeartbeats 8000000
open So
end Go.Proofs
set_option linter.unusedSimpArgs false
set_option linter.unusedVariables false
namespace Go.Proofs
open Go Go.TL
open Go.TL.So
theorem len_wrap (k:UInt8):IntKind.i64.wrap (0 + IntKind.i64.wrap ((k.toNat:Nat):Int)) = (k.toNat:Int):=by
 have h:=k.toNat_lt
 rw [IntWalk.i64_in (k.toNat:Int) (by omega),IntWalk.i64_in _ (by omega)];omega
def L8 (n:Nat):Nat:=if n = 0 then 0 else Nat.log2 n + 1
theorem L8_ok (n:Nat) (h:n < 256):L8 n≤8∧n < 2 ^ L8 n∧(0 < n→2 ^ L8 n≤2 * n):=by
 unfold L8
 revert n
 decide +kernel
def L16 (n:Nat):Nat:=if n < 256 then L8 n else 8 + L8 (n / 256)
theorem L16_ok (n:Nat) (h:n < 65536):L16 n≤16∧n < 2 ^ L16 n∧(0 < n→2 ^ L16 n≤2 * n):=by
 unfold L16
 split
 ·rename_i h2
  obtain ⟨h3,h4,h5⟩:=L8_ok n h2
  exact ⟨by omega,h4,h5⟩
 ·rename_i h2
  obtain ⟨h3,h4,h5⟩:=L8_ok (n / 256) (by omega)
  rw [Nat.pow_add]
  have h6:=h5 (by omega)
  generalize 2 ^ L8 (n / 256) = p at *
  refine ⟨by omega,?_,fun _=>?_⟩ <;> omega
set_option maxRecDepth 100000 in
theorem c_math_bits_Len64 (n:Nat) (h:n < 65536):Spc Tryz.prog F_math_bits_Len64 [vU64 n] [] (vI (L16 n)) []:=by
 have d1:decide ((n:Int)≥4294967296) = false:=decide_eq_false (by omega)
 have d2:decide ((n:Int)≥65536) = false:=decide_eq_false (by omega)
 by_cases h8:n < 256
 ·have d3:decide ((n:Int)≥256) = false:=decide_eq_false (by omega)
  have hw:IntKind.u8.wrap (n:Int) = n:=by rw [IntKind.wrap_u8];omega
  rw [L16,if_pos h8]
  refine spec_of_ir fn_math_bits_Len64 mixm (by simp) fun e _ hst=>W_start ?_
  unfold ir_math_bits_Len64
  simp only [tZ,↓un_u,simprocAttr,d1,d2,d3,hw,Int.toNat_natCast,len_wrap]
  refine ⟨⟨by omega,Int.ofNat_lt.2 h8⟩,.imR (congrArg (fun k:Nat=>vI (k:Int)) ?_) rfl⟩
  clear d1 d2 d3 hw h
  unfold L8
  revert n
  decide +kernel
 ·have d3:decide ((n:Int)≥256) = true:=decide_eq_true (by omega)
  have hs:shrI .u64 (n:Int) 8 = ((n / 256:Nat):Int):=by
   simp only [shrI]
   rw [show min (8:Int).toNat IntKind.u64.bits = 8 from rfl,show (2:Int) ^ 8 = 256 from rfl,Int.fdiv_eq_ediv_of_nonneg _ (by omega)]
   omega
  have hw:IntKind.u8.wrap ((n / 256:Nat):Int) = ((n / 256:Nat):Int):=by rw [IntKind.wrap_u8];omega
  have hw2:IntKind.i64.wrap (0 + 8) = 8:=by decide
  rw [L16,if_neg h8]
  refine spec_of_ir fn_math_bits_Len64 mixm (by simp) fun e _ hst=>W_start ?_
  unfold ir_math_bits_Len64
  simp only [tZ,↓un_u,simprocAttr,d1,d2,d3,hs,hw,hw2,Int.toNat_natCast]
  have hm:n / 256 < 256:=by omega
  refine ⟨⟨by omega,Int.ofNat_lt.2 hm⟩,.imR (congrArg vI ?_) rfl⟩
  clear d1 d2 d3 hw hw2 hs h h8 hst
  generalize n / 256 = m at *
  unfold L8
  revert m
  decide +kernel
theorem c_math_bits_Len (n:Nat) (h:n < 65536):∃ l:Nat,(l≤16∧n < 2 ^ l∧(0 < n→2 ^ l≤2 * n))∧Spc Tryz.prog F_math_bits_Len [vU64 n] [] (vI l) []:=by
 have hs:=c_math_bits_Len64 n h
 refine ⟨L16 n,L16_ok n h,?_⟩
 refine spec_of_ir fn_math_bits_Len mixm (by simp) fun e _ hst=>W_start ?_
 unfold ir_math_bits_Len
 refine sW ?_
 refine C1.im hs (by rfl) (by rfl) ?_
 refine sW ?_
 exact .imR rfl rfl
def xs1 (v:Int):Int:=xorI .u64 v (shlI .u64 v 13)
def xs2 (v:Int):Int:=xorI .u64 v (shrI .u64 v 7)
end Go.Proofs
set_option linter.unusedSimpArgs false
set_option linter.unusedVariables false
namespace Go.Proofs
open Go Go.TL
open Go.TL.So
set_option maxHeartbeats 2000000
theorem gdT_int {xs:List Int} {i:Nat} (h:i < xs.length):(xs.map vI).getD i .junk = vI (gd xs i):=by rw [gd_get h];exact getD_mapT h
theorem replT_int (x y:Int):repl (vI x) 0 (vI y) = vI y:=rfl
theorem cellT_int (x:Int):(vI x).cells.getD 0 .junk = vI x:=rfl
theorem setT_int (xs:List Int) (i:Nat) (v:Int):(xs.map vI).set i (vI v) = (xs.set i v).map vI:=List.map_set.symm
theorem swpT_int (xs:List Int) (i j:Nat):((xs.set i (gd xs j)).set j (gd xs i)) = swp xs i j:=rfl
theorem c_slices_insertionSortOrdered_int (xs:List Int) (a b:Nat) (hab:a≤b) (hb:b≤xs.length) (hl:xs.length < 4611686018427387904) :
 Spc Tryz.prog F_slices_insertionSortOrdered_int [.asl 0 xs.length,vI a,vI b] [(0,.arr 1 (xs.map vI) false)] (.tup []) [(0,.arr 1 ((insS ltI xs a b).map vI) false)]:=by
 have hw:=i64_succ (i:=a) (by omega)
 refine spec_of_ir fn_slices_insertionSortOrdered_int mixm (by simp) fun e _ hst=>W_start ?_
 unfold ir_slices_insertionSortOrdered_int
 simp only [tZ,↓un_u,simprocAttr,hw]
 refine W_loopF mixm (α:=List Int×Nat) [6] (fun q=>q.1.length = xs.length∧a + 1≤q.2∧(q.2≤b∨q.2 = a + 1)∧insF ltI a (b - q.2) q.2 q.1 = insS ltI xs a b) (fun q=>[(6,vI q.2)]) (fun q=>[(0,.arr 1 (q.1.map vI) false)]) (fun q=>b - q.2) (xs,a + 1) ⟨rfl,Nat.le_refl _,.inr rfl,rfl⟩ ?_ fun q hq=>?_
 ·exact .oA [(0,some 0)] []
 obtain ⟨ys,i⟩:=q
 obtain ⟨h1,h2,h3,h4⟩:=hq
 dsimp only at h1 h2 h3 h4
 simp only [tZ,↓un_u,simprocAttr,decide_eq_true_eq,decide_eq_false_iff_not]
 refine ⟨fun h5=>?_,fun h5=>?_⟩
 ·have hi2:i < b:=by omega
  rw [show b - i = (b - (i + 1)) + 1 by omega,insF] at h4
  refine W_loopF mixm (α:=List Int×Nat) [7] (fun q=>q.1.length = xs.length∧a≤q.2∧q.2≤i∧insJ ltI a q.2 q.1 = insJ ltI a i ys) (fun q=>[(7,vI q.2)]) (fun q=>[(0,.arr 1 (q.1.map vI) false)]) (fun q=>q.2) (ys,i) ⟨h1,by omega,Nat.le_refl _,rfl⟩ ?_ fun q hq=>?_
  ·exact .oA [(0,some 0)] []
  obtain ⟨zs,j⟩:=q
  obtain ⟨g1,g2,g3,g4⟩:=hq
  dsimp only at g1 g2 g3 g4
  by_cases hj:a < j
  ·obtain ⟨j,rfl⟩:∃ k,j = k + 1:=⟨j - 1,by omega⟩
   have hwj:IntKind.i64.wrap (((j + 1:Nat):Int) - 1) = (j:Int):=by rw [IntWalk.i64_in _ (by omega)];omega
   have hd:decide (((j + 1:Nat):Int) > a) = true:=by simp;omega
   simp only [tZ,↓un_u,simprocAttr,hwj,hd,Int.toNat_natCast,gdT_int (show j < zs.length by omega),gdT_int (show j + 1 < zs.length by omega)]
   refine ⟨⟨g1,by omega,by omega⟩,⟨g1,by omega⟩,⟨g1,by omega,by omega⟩,⟨g1,by omega⟩,?_⟩
   refine C2.one (by trivial) (C1.im (c_cmp_Less_int (gd zs (j + 1)) (gd zs j)) (by rfl) (by rfl) ?_)
   have hsl:(zs.set (j + 1) (gd zs j)).length = zs.length:=List.length_set
   simp only [tZ,↓un_u,simprocAttr,hwj,Int.toNat_natCast,gdT_int (show j < zs.length by omega),gdT_int (show j + 1 < zs.length by omega),replT_int,cellT_int,setT_int,gdT_int (show j < (zs.set (j + 1) (gd zs j)).length by omega),swpT_int]
   have hin:insJ ltI a (j + 1) zs = if a < j + 1∧ltI (gd zs (j + 1)) (gd zs j) = true then insJ ltI a j (swp zs (j + 1) j) else zs:=rfl
   refine ⟨by kernel_rfl,fun h6=>?_,fun h6=>?_⟩
   ·refine ⟨⟨g1,by omega,by omega⟩,⟨g1,by omega⟩,⟨g1,by omega,by omega⟩,⟨g1,by omega⟩,⟨g1,by omega,by omega⟩,⟨g1,by omega⟩,⟨by omega,by omega,by omega⟩,⟨by omega,by omega⟩,by kernel_rfl,(swp zs (j + 1) j,j),⟨by dsimp only;rw [swp_len];exact g1,by dsimp only;omega,by dsimp only;omega,?_⟩,by dsimp only;omega,?_⟩
    ·rw [← g4,hin,if_pos ⟨hj,h6⟩]
    ·exact .oA [(0,some 0)] []
   ·rw [hin,if_neg (fun e=>by rw [h6] at e;exact absurd e.2 (by simp))] at g4
    have hwi:=i64_succ (i:=i) (by omega)
    refine ⟨(zs,i + 1),⟨g1,by dsimp only;omega,by dsimp only;omega,?_⟩,by dsimp only;omega,?_⟩
    ·dsimp only;rw [g4];exact h4
    ·rw [hwi]
     exact .oA [(0,some 0)] []
  ·have hd:decide ((j:Int) > a) = false:=by simp;omega
   have hwi:=i64_succ (i:=i) (by omega)
   have hin:insJ ltI a j zs = zs:=by
    cases j with
    | zero=>rfl
    | succ j=>unfold insJ;rw [if_neg (fun e=>hj e.1)]
   rw [hin] at g4
   simp only [tZ,↓un_u,simprocAttr,hd,hwi]
   refine C2.no (fun h=>h) ?_
   simp only [tZ,↓un_u,simprocAttr,hwi]
   refine ⟨by kernel_rfl,(zs,i + 1),⟨g1,by dsimp only;omega,by dsimp only;omega,?_⟩,by dsimp only;omega,?_⟩
   ·dsimp only;rw [g4];exact h4
   ·exact .oA [(0,some 0)] []
 ·rw [show b - i = 0 by omega,insF] at h4
  rw [← h4]
  exact .oA [(0,some 0)] []
theorem updT_int {st:Sto} {B:List Nat} (n:Nat) (ts:List T) (h:imAL ts = true):ltAs st [(0,some 0)] B (.asl 0 n :: ts) (.asl 0 n :: ts):=⟨by simp [ltA,ltC,ltC0,TL.get],ltAs_im h⟩
theorem c_slices_pdqS_int (xs:List Int) (lim:Nat) (hl:xs.length≤12) :
 Spc Tryz.prog F_slices_pdqsortOrdered_int [.asl 0 xs.length,vI 0,vI xs.length,vI lim] [(0,.arr 1 (xs.map vI) false)] (.tup []) [(0,.arr 1 ((insS ltI xs 0 xs.length).map vI) false)]:=by
 have hw1:IntKind.i64.wrap ((xs.length:Int) - 0) = (xs.length:Int):=by rw [IntWalk.i64_in _ (by omega)];omega
 have hin:=c_slices_insertionSortOrdered_int xs 0 xs.length (by omega) (by omega) (by omega)
 refine spec_of_cut [10,15,17] fn_slices_pdqsortOrdered_int mixm (by simp) fun e _ hst=>W_start ?_
 unfold ir_slices_pdqsortOrdered_int
 simp only [cutAt,List.contains_cons,List.contains_nil,Nat.reduceBEq,Bool.or_false,Bool.or_true,Bool.true_or,Bool.false_or,cond_true,cond_false]
 refine sW ?_
 refine W_loopF mixm (α:=Unit) [1,2,3,8,9] (fun _=>True) (fun _=>[(1,vI 0),(2,vI xs.length),(3,vI lim),(8,vB true),(9,vB true)]) (fun _=>[(0,.arr 1 (xs.map vI) false)]) (fun _=>0) () trivial ?_ fun q hq=>?_
 ·exact .oA [(0,some 0)] []
 simp only [tZ,↓un_u,simprocAttr,decide_eq_true_eq,decide_eq_false_iff_not,hw1]
 refine ⟨fun h8=>?_,fun h8=>absurd (show (xs.length:Int)≤12 by omega) h8⟩
 refine C1.upd 0 1 _ _ hin (by rfl) (by apply imXs_map;intro _;exact ⟨rfl,rfl⟩) (by apply imXs_map;intro _;exact ⟨rfl,rfl⟩) (updT_int _ _ (by rfl)) (by rfl) ?_
 refine sW ?_
 exact .oA [(0,some 0)] []
theorem c_slices_Sort_int (xs:List Int) (hl:xs.length≤12):∃ ys,(ys.Perm xs∧Srt ltI ys 0 xs.length)∧
 Spc Tryz.prog F_slices_Sort_int [.asl 0 xs.length] [(0,.arr 1 (xs.map vI) false)] (.tup []) [(0,.arr 1 (ys.map vI) false)]:=by
 obtain ⟨lim,hlim,hs⟩:=c_math_bits_Len xs.length (by omega)
 refine ⟨insS ltI xs 0 xs.length,⟨(insS_sw ltI xs (Nat.zero_le _) (Nat.le_refl _)).perm,insS_srt ltI_ord xs (Nat.zero_le _) (Nat.le_refl _)⟩,?_⟩
 have hu:IntKind.u64.wrap (xs.length:Int) = (xs.length:Int):=by rw [IntKind.wrap_u64];omega
 refine spec_of_ir fn_slices_Sort_int mixm (by simp) fun e _ hst=>W_start ?_
 unfold ir_slices_Sort_int
 simp only [tZ,↓un_u,simprocAttr,hu]
 refine C1.im hs (by rfl) (by rfl) ?_
 refine sW ?_
 refine C1.upd 0 1 _ _ (c_slices_pdqS_int xs lim hl) (by rfl) (by apply imXs_map;intro _;exact ⟨rfl,rfl⟩) (by apply imXs_map;intro _;exact ⟨rfl,rfl⟩) (updT_int _ _ (by rfl)) (by rfl) ?_
 refine sW ?_
 exact .oA [(0,some 0)] []
theorem gd_drop_int {A l:List Int} {m j:Nat} (h:A.drop m = l.drop m) (hj:m≤j):gd A j = gd l j:=by
 have h1:(A.drop m).getD (j - m) default = (l.drop m).getD (j - m) default:=by rw [h]
 simp only [List.getD_eq_getElem?_getD,List.getElem?_drop] at h1
 rw [show m + (j - m) = j by omega] at h1
 simpa [gd,List.getD_eq_getElem?_getD] using h1
theorem c_slices_Compact_int (l:List Int) (hl:l.length < 2305843009213693952) :
 Spc Tryz.prog F_slices_Compact_int [.vw 0 l.length 0 l.length] [(0,.arr 1 (l.map vI) false)] (.asl 1 (cptN eqI2 l l.length).length) [(0,.dead),(1,.arr 1 ((cptN eqI2 l l.length).map vI) false)]:=by
 refine spec_of_ir fn_slices_Compact_int mixm (by simp) fun e _ hst=>W_start ?_
 unfold ir_slices_Compact_int
 refine sW ?_
 have hfull:∀ j,j≤l.length→(∀ i,0 < i→i < j→eqI2 (gd l i) (gd l (i - 1)) = false)→cptN eqI2 l j = l.take j:=by
  intro j
  induction j with
  | zero=>intro _ _;rfl
  | succ j ih=>
    intro h1 h2
    rw [cptN,ih (by omega) (fun i h3 h4=>h2 i h3 (by omega)),take_snoc (by omega),if_neg ?_,gd_get (by omega)]
    intro e
    rw [h2 j e.1 (by omega)] at e
    exact absurd e.2 (by simp)
 have hdone:∀ e:Env,True:=fun _=>trivial
 simp only [tZ,↓un_u,simprocAttr,decide_eq_true_eq,decide_eq_false_iff_not]
 refine ⟨fun h=>?_,fun h=>?_⟩
 ·have hc:cptN eqI2 l l.length = l:=by rw [hfull l.length (Nat.le_refl _) (fun i h1 h2=>by omega),List.take_length]
  rw [hc]
  refine .cutv 1 rfl (by simp) rfl (by simp) ?_
  simp only [cutSt,List.length_map,List.take_of_length_le (show (l.map vI).length≤l.length by simp)]
  exact .oA [(0,some 0),(1,some 1)] []
 refine W_loopF mixm (α:=Nat) [3] (fun k=>1≤k∧k≤l.length∧∀ i,0 < i→i < k→eqI2 (gd l i) (gd l (i - 1)) = false) (fun k=>[(3,vI k)]) (fun k=>[(0,.arr 1 (l.map vI) false)]) (fun k=>l.length - k) 1 ⟨Nat.le_refl _,by omega,fun i h1 h2=>by omega⟩ ?_ fun k hk=>?_
 ·exact .oA [(0,some 0)] []
 obtain ⟨k1,k2,k3⟩:=hk
 simp only [tZ,↓un_u,simprocAttr,decide_eq_true_eq,decide_eq_false_iff_not]
 refine ⟨fun h4=>?_,fun h4=>?_⟩
 ·have hkl:k < l.length:=by omega
  have hwp:IntKind.i64.wrap ((k:Int) - 1) = ((k - 1:Nat):Int):=by rw [IntWalk.i64_in _ (by omega)];omega
  have hws:=i64_succ (i:=k) (by omega)
  simp only [tZ,↓un_u,simprocAttr,hwp,Int.toNat_natCast,Nat.zero_add,Nat.add_zero,gdT_int hkl,gdT_int (show k - 1 < l.length by omega),cellT_int]
  refine ⟨by omega,by omega,by omega,by omega,by kernel_rfl,fun h5=>?_,fun h5=>?_⟩
  ·have hFk:cptN eqI2 l (k + 1) = l.take k:=by
    rw [cptN,if_pos ⟨by omega,h5⟩,List.append_nil,hfull k k2 k3]
   have hF0:(cptN eqI2 l (k + 1)).length = k:=by rw [hFk,List.length_take];omega
   refine ⟨by omega,?_⟩
   refine W_loopF mixm (α:=List Int×Nat) [3,5] (fun q=>q.1.length = l.length∧1≤q.2∧k + q.2≤l.length∧(cptN eqI2 l (k + q.2)).length < k + q.2∧q.1.take (cptN eqI2 l (k + q.2)).length = cptN eqI2 l (k + q.2)∧q.1.drop (k + q.2 - 1) = l.drop (k + q.2 - 1)) (fun q=>[(3,vI (cptN eqI2 l (k + q.2)).length),(5,vI q.2)]) (fun q=>[(0,.arr 1 (q.1.map vI) false)]) (fun q=>l.length - q.2) (l,1) ⟨rfl,Nat.le_refl _,by dsimp only;omega,by dsimp only;omega,by dsimp only;rw [hF0,hFk],rfl⟩ ?_ fun q hq=>?_
   ·rw [show (l,1).2 = 1 from rfl,hF0]
    exact .oA [(0,some 0)] []
   obtain ⟨A,q⟩:=q
   obtain ⟨g1,g2,g3,g4,g5,g6⟩:=hq
   dsimp only at g1 g2 g3 g4 g5 g6
   dsimp only
   simp only [tZ,↓un_u,simprocAttr,decide_eq_true_eq,decide_eq_false_iff_not]
   refine ⟨g1,fun h6=>?_,fun h6=>?_⟩
   ·have hkq:k + q < l.length:=by omega
    have hwq:IntKind.i64.wrap ((q:Int) - 1) = ((q - 1:Nat):Int):=by rw [IntWalk.i64_in _ (by omega)];omega
    have hwq1:=i64_succ (i:=q) (by omega)
    have hwF:=i64_succ (i:=(cptN eqI2 l (k + q)).length) (by omega)
    have ha1:gd A (k + q) = gd l (k + q):=gd_drop_int g6 (by omega)
    have ha2:gd A (k + (q - 1)) = gd l (k + q - 1):=by rw [show k + (q - 1) = k + q - 1 by omega];exact gd_drop_int g6 (Nat.le_refl _)
    have hlF:=cptN_le eqI2 l (k + q)
    have hFs:cptN eqI2 l (k + (q + 1)) = cptN eqI2 l (k + q) ++ (if eqI2 (gd l (k + q)) (gd l (k + q - 1)) = true then [] else [gd l (k + q)]):=by
     rw [show k + (q + 1) = (k + q) + 1 by omega,cptN]
     by_cases e:eqI2 (gd l (k + q)) (gd l (k + q - 1)) = true
     ·rw [if_pos ⟨by omega,e⟩,if_pos e]
     ·rw [if_neg (fun h=>e h.2),if_neg e]
    simp only [tZ,↓un_u,simprocAttr,hwq,Int.toNat_natCast,List.length_map,gdT_int (show k + q < A.length by omega),gdT_int (show k + (q - 1) < A.length by omega),cellT_int,ha1,ha2]
    refine ⟨by omega,by omega,by omega,by omega,by kernel_rfl,fun h7=>?_,fun h7=>?_⟩
    ·have hne:¬ eqI2 (gd l (k + q)) (gd l (k + q - 1)) = true:=by
      intro e
      have e2:((gd l (k + q)) == (gd l (k + q - 1))) = true:=e
      first | (rw [e2] at h7;cases h7) | (rw [bne,e2] at h7;cases h7)
     rw [if_neg hne] at hFs
     simp only [tZ,↓un_u,simprocAttr,Int.toNat_natCast,List.length_map,gdT_int (show (cptN eqI2 l (k + q)).length < A.length by omega),replT_int,setT_int,ha1,hwF]
     refine ⟨by omega,by omega,by omega,by omega,(A.set (cptN eqI2 l (k + q)).length (gd l (k + q)),q + 1),⟨?_,by dsimp only;omega,by dsimp only;omega,?_,?_,?_⟩,by dsimp only;omega,?_⟩
     ·dsimp only;rw [List.length_set];exact g1
     ·dsimp only;rw [hFs,List.length_append];simp;omega
     ·dsimp only
      rw [hFs,List.length_append,List.length_cons,List.length_nil,Nat.zero_add,take_snoc (by rw [List.length_set];omega),List.take_set_of_le (Nat.le_refl _),g5,List.getElem_set_self]
     ·dsimp only
      rw [show k + (q + 1) - 1 = (k + q - 1) + 1 by omega,List.drop_set_of_lt (by omega),← List.drop_drop,← List.drop_drop,g6]
     ·dsimp only
      rw [hwq1,hFs,List.length_append,List.length_cons,List.length_nil,Nat.zero_add]
      exact .oA [(0,some 0)] []
    ·have heq:eqI2 (gd l (k + q)) (gd l (k + q - 1)) = true:=by
      show ((gd l (k + q)) == (gd l (k + q - 1))) = true
      simpa using h7
     rw [if_pos heq,List.append_nil] at hFs
     refine ⟨(A,q + 1),⟨g1,by dsimp only;omega,by dsimp only;omega,by dsimp only;rw [hFs];omega,by dsimp only;rw [hFs];exact g5,?_⟩,by dsimp only;omega,?_⟩
     ·dsimp only
      rw [show k + (q + 1) - 1 = (k + q - 1) + 1 by omega,← List.drop_drop,← List.drop_drop,g6]
     ·dsimp only
      rw [hwq1,hFs]
      exact .oA [(0,some 0)] []
   ·have hkq:k + q = l.length:=by omega
    rw [hkq] at g4 g5
    rw [hkq]
    generalize cptN eqI2 l l.length = F at *
    simp only [tZ,↓un_u,simprocAttr,List.length_map,Int.toNat_natCast,g1,List.length_take,List.length_drop,List.length_replicate]
    refine ⟨by omega,by omega,by omega,?_⟩
    refine .cutv 1 rfl (by simp;omega) rfl (by simp;omega) ?_
    have hcut:(((A.map vI).take F.length ++ List.replicate (l.length - F.length) (T.v (Value.int .i64 0)) ++ (A.map vI).drop (F.length + (l.length - F.length))).take F.length) = F.map vI:=by
     rw [List.append_assoc,List.take_append_of_le_length (by rw [List.length_take,List.length_map];omega),List.take_take,Nat.min_self,← List.map_take,g5]
    simp only [Nat.sub_zero,Nat.zero_add,cutSt,List.append_assoc] at hcut ⊢
    rw [hcut]
    exact .oA [(0,some 0),(1,some 1)] []
  ·refine ⟨k + 1,⟨by omega,by omega,fun i h6 h7=>?_⟩,by omega,?_⟩
   ·by_cases e:i = k
    ·subst e;exact h5
    ·exact k3 i h6 (by omega)
   ·rw [hws]
    exact .oA [(0,some 0)] []
 ·obtain rfl:k = l.length:=by omega
  have hc:cptN eqI2 l l.length = l:=by rw [hfull l.length (Nat.le_refl _) k3,List.take_length]
  rw [hc]
  refine .cutv 1 rfl (by simp) rfl (by simp) ?_
  simp only [cutSt,List.length_map,List.take_of_length_le (show (l.map vI).length≤l.length by simp)]
  exact .oA [(0,some 0),(1,some 1)] []
end Go.Proofs
set_option linter.unusedSimpArgs false
set_option linter.unusedVariables false
namespace Go.Proofs
open Go Go.TL
set_option maxRecDepth 4000
set_option maxHeartbeats 8000000
open So
def setI (l:List Int):List Int:=l.foldl (insU ltI eqI2) []
theorem c_slices_CloneO_int (l:List Int) (hl:l.length * 8≤140737488355328):Spc Tryz.prog F_slices_Clone_int [vIs l] [] (.asl 0 l.length) [(0,.arr 1 (l.map vI) false)]:=by
 refine spec_of_ir fn_slices_Clone_int mixm (by simp) fun e _ hst=>W_start ?_
 unfold ir_slices_Clone_int
 refine sW ?_
 refine ⟨fun h=>?_,?_⟩
 ·have:l = []:=by
   simpa using h
  subst this
  exact .oA [(0,none)] []
 ·refine ⟨by omega,?_⟩
  exact .oA [(0,some 16384)] []
theorem insF_len:∀ (l m:List Int),(l.foldl (insU ltI eqI2) m).length≤m.length + l.length
 | [],m=>by simp
 | x :: l,m=>by
   rw [List.foldl_cons,List.length_cons]
   have h1:=insF_len l (insU ltI eqI2 m x)
   have h2:=insU_len (lt:=ltI) (eq:=eqI2) (l:=m) (v:=x)
   omega
theorem set_len (l:List Int):(setI l).length≤l.length:=by
 have:=insF_len l []
 simpa [setI] using this
end Go.Proofs
set_option linter.unusedSimpArgs false
set_option linter.unusedVariables false
namespace Go.Proofs
open Go Go.TL
set_option maxRecDepth 4000
set_option maxHeartbeats 8000000
theorem c_slices_Clone_Code (l:List Cod) (hl:l.length≤1000000):Spc Tryz.prog F_slices_Clone_Code [.sl 2 (l.map codT)] [] (.sl 2 (l.map codT)) []:=by
 refine spec_of_ir fn_slices_Clone_Code mixm (by simp) fun e _ hst=>W_start ?_
 unfold ir_slices_Clone_Code
 refine sW ?_
 refine ⟨fun h=>?_,?_⟩
 ·have:l = []:=by
   simpa using h
  subst this
  exact .oA [] []
 ·refine ⟨by omega,?_⟩
  exact .oA [] [16384]
theorem c_source_rowsOf (l:List (List Int)) (hl:l.length≤1000000) (hr:∀ r∈l,r.length≤1000000):Spc Tryz.prog F_source_rowsOf [vRw l] [] (.asl 0 l.length) [(0,.arr 1 (l.map vIs) false)]:=by
 refine spec_of_ir fn_source_rowsOf mixm (by simp) fun e _ hst=>W_start ?_
 unfold ir_source_rowsOf
 refine sW ?_
 refine W_loopF mixm (α:=Nat) [3,8] (fun i=>i≤l.length) (fun i=>[(3,.asl 1 (l.take i).length),(8,vI i)]) (fun i=>[(1,.arr 1 ((l.take i).map vIs) false)]) (fun i=>l.length - i) 0 (by omega) ?_ fun i hi=>?_
 ·simp only [List.take_zero,List.length_nil,List.map_nil]
  exact .oA [(1,none)] []
 have hsl:(l.take i).length = i:=by rw [List.length_take];omega
 refine sD ?_
 refine ⟨fun h2=>?_,fun h2=>?_⟩
 ·have hi2:i < l.length:=by omega
  have hwi:=i64_succ (i:=i) (by omega)
  have hcl:=c_slices_Clone_int l[i] (by have:=hr _ (List.getElem_mem hi2);omega)
  have hs:=take_snoc hi2
  have hspl:=congrArg List.length hs
  simp only [List.length_append,List.length_cons,List.length_nil] at hspl
  simp only [tZ,↓un_u,simprocAttr,Int.toNat_natCast,getD_mapT hi2]
  refine ⟨by omega,?_⟩
  refine C1.im hcl (by rfl) (by rfl) ?_
  simp only [tZ,↓un_u,simprocAttr,hwi]
  refine ⟨by omega,i + 1,by omega,by omega,?_⟩
  rw [hs]
  exact .oA [(1,some 1)] []
 ·have hil:i = l.length:=by omega
  subst hil
  rw [List.take_length]
  exact .oA [(0,some 1)] []
theorem c_source_cloneSchema (s:Sch) (h:SchOk s):Spc Tryz.prog F_source_cloneSchema [schT s] [] (schT s) []:=by
 have hnl:=h.nl
 have hnc:=h.nc
 refine spec_of_ir fn_source_cloneSchema mixm (by simp) fun e _ hst=>W_start ?_
 unfold ir_source_cloneSchema
 refine sW ?_
 refine W_loopF mixm (α:=Nat) [11] (fun i=>i≤s.lists.length) (fun i=>[(11,vI i)]) (fun i=>[(4096,.arr 2 [schT s] false),(4100,.arr 2 [.agg [.v (.slice none 0 0),.v (.slice none 0 0)]] false),(8192,.arr 2 [.agg [.asl 1 (s.lists.take i).length,.v (.slice none 0 0)]] false),(1,.arr 2 ((s.lists.take i).map cdlT) false)]) (fun i=>s.lists.length - i) 0 (by omega) ?_ fun i hi=>?_
 ·simp only [List.take_zero,List.length_nil,List.map_nil]
  exact .oA [(4096,some 4096),(4100,some 4100),(8192,some 8192),(1,none)] []
 have hsl:(s.lists.take i).length = i:=by rw [List.length_take];omega
 refine sD ?_
 refine ⟨fun h2=>?_,fun h2=>?_⟩
 ·have hi2:i < s.lists.length:=by omega
  have hwi:=i64_succ (i:=i) (by omega)
  have hEl:=h.ls i hi2
  rw [show s.lists.getD i default = s.lists[i] from getD_get hi2] at hEl
  have hcl:=c_slices_Clone_Code s.lists[i].codes (by have:=(lstE_par hEl).2.2;omega)
  have hs:=take_snoc hi2
  have hspl:=congrArg List.length hs
  simp only [List.length_append,List.length_cons,List.length_nil] at hspl
  simp only [tZ,↓un_u,simprocAttr,Int.toNat_natCast,getD_mapT hi2]
  refine ⟨by omega,?_⟩
  refine C1.im hcl (by rfl) (by rfl) ?_
  simp only [tZ,↓un_u,simprocAttr,hwi]
  refine ⟨by omega,i + 1,by omega,by omega,?_⟩
  rw [hs]
  exact .oA [(4096,some 4096),(4100,some 4100),(8192,some 8192),(1,some 1)] []
 ·have hil:i = s.lists.length:=by omega
  subst hil
  rw [List.take_length]
  clear hsl
  refine W_loopF mixm (α:=Nat) [29] (fun i=>i≤s.cols.length) (fun i=>[(29,vI i)]) (fun i=>[(4100,.arr 2 [.agg [.v (.slice none 0 0),.v (.slice none 0 0)]] false),(8192,.arr 2 [.agg [.asl 1 s.lists.length,.asl 2 (s.cols.take i).length]] false),(1,.arr 2 (s.lists.map cdlT) false),(2,.arr 7 ((s.cols.take i).map colT) false)]) (fun i=>s.cols.length - i) 0 (by omega) ?_ fun i hi=>?_
  ·simp only [List.take_zero,List.length_nil,List.map_nil]
   exact .oA [(4100,some 4100),(8192,some 8192),(1,some 1),(2,none)] []
  have hsl:(s.cols.take i).length = i:=by rw [List.length_take];omega
  refine sD ?_
  refine ⟨fun h2=>?_,fun h2=>?_⟩
  ·have hi2:i < s.cols.length:=by omega
   have hwi:=i64_succ (i:=i) (by omega)
   have hEc:=colE_kind (h.cs i hi2)
   have hwd:s.cols[i].widths.length≤4:=by
    have hat:colAt s i = s.cols[i]:=by rw [colAt,getD_get hi2]
    have hE:=h.cs i hi2
    rw [hat] at hEc
    by_cases k3:s.cols[i].kind = 3
    ·have hm:=hEc.2.2.2.2 k3
     unfold measE at hm
     split at hm
     ·cases hm
     ·split at hm
      ·cases hm
      ·omega
    ·unfold colE at hE
     rw [hat] at hE
     repeat (split at hE;first | (exfalso;revert hE;decide) | (rename_i q;try (exact absurd hE q.2)))
     all_goals omega
   have hcl:=c_slices_Clone_int s.cols[i].widths (by omega)
   have hs:=take_snoc hi2
   have hspl:=congrArg List.length hs
   simp only [List.length_append,List.length_cons,List.length_nil] at hspl
   simp only [tZ,↓un_u,simprocAttr,Int.toNat_natCast,getD_mapT hi2]
   refine ⟨by omega,?_⟩
   refine C1.im hcl (by rfl) (by rfl) ?_
   simp only [tZ,↓un_u,simprocAttr,hwi]
   refine ⟨by omega,i + 1,by omega,by omega,?_⟩
   rw [hs]
   exact .oA [(4100,some 4100),(8192,some 8192),(1,some 1),(2,some 2)] []
  ·have hil:i = s.cols.length:=by omega
   subst hil
   rw [List.take_length]
   exact .oA [] [1,2]
end Go.Proofs
set_option linter.unusedSimpArgs false
set_option linter.unusedVariables false
namespace Go.Proofs
open Go Go.TL
set_option maxRecDepth 4000
set_option maxHeartbeats 8000000
open So
theorem c_slices_Insert_int (l:List Int) (x:Int) (i:Nat) (hi:i≤l.length) (hl:l.length < 1000000000000) :
 Spc Tryz.prog F_slices_Insert_int [.vw 0 l.length 0 l.length,vI i,.sl 1 [vI x]] [(0,.arr 1 (l.map vI) false)] (.asl 1 (l.length + 1)) [(0,.dead),(1,.arr 1 ((l.take i ++ x :: l.drop i).map vI) false)]:=by
 refine spec_of_cut [7,8,10] fn_slices_Insert_int mixm (by simp) fun e _ hst=>W_start ?_
 unfold ir_slices_Insert_int
 simp only [cutAt,List.contains_cons,List.contains_nil,Nat.reduceBEq,Bool.or_false,Bool.or_true,Bool.true_or,Bool.false_or,cond_true,cond_false]
 simp only [tl,tl2,tl4,↓un_u,isCallR,entX,argFr,ret,retI,retB,intT,unT,endR,ressR,resR,tupT,bslR,boxR,lenAll,↓reduceIte,Nat.reduceEqDiff,Nat.reduceAdd,Nat.reduceMul,Nat.reduceLT,Nat.reduceLeDiff,reduceCtorEq,Int.reduceLE,Int.reduceLT,ne_eq,Int.reduceEq,not_false_eq_true,decide_true,decide_false,Int.reduceToNat,tl3,Int.reduceBNe,Int.reduceBEq,rmK,rm1,not_true_eq_false,List.drop_zero,List.take_of_length_le (show (l.map vI).length≤l.length by simp),show (((1:Nat):Int) == 0) = false from rfl]
 have e1:(i:Int).toNat = i:=Int.toNat_natCast _
 refine ⟨by omega,fun h=>?_,fun h=>?_⟩
 ·have h2:i = l.length:=by have:=beq_iff_eq.1 h;omega
  subst h2
  refine W_le _ _ (Le.cut 0 5 l.length (by rfl) (by rfl) (by simp)) ?_
  simp only [cutFr,cutSt,cut2,cut1,cut0]
  simp only [tl,tl2,tl4,↓un_u,isCallR,entX,argFr,ret,retI,retB,intT,unT,endR,ressR,resR,tupT,bslR,boxR,lenAll,↓reduceIte,Nat.reduceEqDiff,Nat.reduceAdd,Nat.reduceMul,Nat.reduceLT,Nat.reduceLeDiff,reduceCtorEq,Int.reduceLE,Int.reduceLT,ne_eq,Int.reduceEq,not_false_eq_true,decide_true,decide_false,Int.reduceToNat,tl3,Int.reduceBNe,Int.reduceBEq,rmK,rm1,not_true_eq_false,List.length_map,List.take_of_length_le (show (l.map vI).length≤l.length by simp)]
  refine ⟨by omega,?_⟩
  refine .of [(0,some 0),(1,some 5)] [] rfl (by first | rfl | (rw [hst];rfl)) ?_ ?_
  all_goals (try simp only [ltSto,ltO2,ltO1,ltAs,ltA,ltC,ltC0,ltC0s,ltCs,ltT,ltFr,ltS,wrOk,wrO,TL.get,hasFr,↓reduceIte,Nat.reduceEqDiff,reduceCtorEq,Option.getD_some,Option.isSome_some,List.length_map,List.length_append,List.length_cons,List.length_nil,List.append_nil,List.mem_singleton,List.mem_cons,List.not_mem_nil,and_true,true_and,and_self,imp_self,forall_const,false_implies,implies_true,true_implies,or_false,Bool.false_eq_true,Bool.true_eq_false,ImXs_nil,true_or,or_true,false_or,false_and,and_false,rmK,rm1,List.map_append,List.map_cons,List.map_nil,List.cons_append,List.nil_append,List.take_length,List.drop_length])
  all_goals (try (repeat' (first | exact ltXs_nil | (apply ltXs_map;intro _;exact ⟨rfl,rfl⟩) | (apply imXs_map;intro _;exact ⟨rfl,rfl⟩) | with_reducible apply imXs_append | with_reducible refine imXs_cons ⟨rfl,rfl⟩ ?_ | exact imXs_nil | with_reducible apply ltXs_append | with_reducible refine ltXs_cons ⟨rfl,rfl,?_⟩ ?_ | with_reducible apply And.intro | exact ltCs_im rfl | exact ltCs_im (by assumption) | (refine ⟨⟨?_,rfl,?_,rfl,?_⟩,trivial⟩ <;> first | (simp;done) | (apply imXs_map;intro _;exact ⟨rfl,rfl⟩)) | trivial | rfl | (rw [i64_succ (by omega)]) | omega)))
 have h2:i < l.length:=by have:=beq_eq_false_iff_ne.1 h;omega
 refine W_cap 0 (by rfl) (by rfl) fun c hc1 hc2=>?_
 simp only [capFr,capSt,capVw]
 rw [List.length_map] at hc1
 have hw:IntKind.i64.wrap ((l.length:Int) + ((1:Nat):Int)) = ((l.length + 1:Nat):Int):=by rw [IntWalk.i64_in _ (by omega)];omega
 have hw2:IntKind.i64.wrap (((l.length + 1:Nat):Int) - (i:Int)) = ((l.length + 1 - i:Nat):Int):=by rw [IntWalk.i64_in _ (by omega)];omega
 have hw3:IntKind.i64.wrap ((i:Int) + ((1:Nat):Int)) = ((i + 1:Nat):Int):=by rw [IntWalk.i64_in _ (by omega)];omega
 have e2:((l.length + 1:Nat):Int).toNat = l.length + 1:=Int.toNat_natCast _
 have e3:((i + 1:Nat):Int).toNat = i + 1:=Int.toNat_natCast _
 have e4:((l.length + 1 - i:Nat):Int).toNat = l.length + 1 - i:=Int.toNat_natCast _
 have e5:((c:Nat):Int).toNat = c:=Int.toNat_natCast _
 obtain ⟨J,hJ⟩:∃ J,J = List.replicate (c - l.length) (junkT 1):=⟨_,rfl⟩
 have hJl:J.length = c - l.length:=by rw [hJ,List.length_replicate]
 simp only [List.length_map,← hJ]
 simp only [tl,tl2,tl4,↓un_u,isCallR,entX,argFr,ret,retI,retB,intT,unT,endR,ressR,resR,tupT,bslR,boxR,lenAll,↓reduceIte,Nat.reduceEqDiff,Nat.reduceAdd,Nat.reduceMul,Nat.reduceLT,Nat.reduceLeDiff,reduceCtorEq,Int.reduceLE,Int.reduceLT,ne_eq,Int.reduceEq,not_false_eq_true,decide_true,decide_false,Int.reduceToNat,tl3,Int.reduceBNe,Int.reduceBEq,rmK,rm1,not_true_eq_false,List.length_map,e1,e2,e3,e4,e5,hw,hw2,hw3,hJl,Nat.sub_zero,Nat.zero_add,List.drop_zero,decide_eq_true_eq,decide_eq_false_iff_not]
 refine ⟨by omega,fun h3=>⟨by omega,by omega,?_⟩,fun h3=>⟨by omega,?_⟩⟩
 ·have h4:c = l.length:=by omega
  subst h4
  have hJ0:J = []:=List.eq_nil_of_length_eq_zero (by rw [hJl];omega)
  clear hJ
  subst hJ0
  have e6:i + (l.length + 1 - i) = l.length + 1:=by omega
  simp only [List.append_nil,← List.map_take,e6]
  have hz:∀ m,ImXs 1 (List.replicate m (.v (.int .i64 0))):=fun m y hy=>by rw [(List.mem_replicate.1 hy).2];exact ⟨rfl,rfl⟩
  refine W_le [(0,.vw 0 l.length 0 l.length),(1,vI i),(2,.sl 1 [vI x]),(7,vI (1:Nat)),(9,.vw 40992 (l.length + 1) 0 (l.length + 1))] [(0,.arr 1 (l.map vI) false),(40992,.arr 1 ((l.take i).map vI ++ List.replicate (l.length + 1 - i) (.v (.int .i64 0))) false)] ?_ ?_
  ·refine .of [(0,some 0),(40992,some 40992)] [] rfl (by first | rfl | (rw [hst];rfl)) ?_ ?_
   all_goals (try simp only [ltSto,ltO2,ltO1,ltAs,ltA,ltC,ltC0,ltC0s,ltCs,ltT,ltFr,ltS,wrOk,wrO,TL.get,hasFr,↓reduceIte,Nat.reduceEqDiff,reduceCtorEq,Option.getD_some,Option.isSome_some,List.length_map,List.length_append,List.length_cons,List.length_nil,List.append_nil,List.mem_singleton,List.mem_cons,List.not_mem_nil,and_true,true_and,and_self,imp_self,forall_const,false_implies,implies_true,true_implies,or_false,Bool.false_eq_true,Bool.true_eq_false,ImXs_nil,true_or,or_true,false_or,false_and,and_false,rmK,rm1,List.map_append,List.map_cons,List.map_nil,List.cons_append,List.nil_append])
   all_goals (try (repeat' (first | exact ltXs_nil | (apply ltXs_map;intro _;exact ⟨rfl,rfl⟩) | (apply imXs_map;intro _;exact ⟨rfl,rfl⟩) | with_reducible apply imXs_append | with_reducible refine imXs_cons ⟨rfl,rfl⟩ ?_ | exact imXs_nil | with_reducible apply ltXs_append | with_reducible refine ltXs_cons ⟨rfl,rfl,?_⟩ ?_ | with_reducible apply And.intro | exact ltCs_im rfl | exact ltCs_im (by assumption) | (refine ⟨⟨?_,rfl,?_,rfl,?_⟩,trivial⟩ <;> first | (simp;done) | (apply imXs_map;intro _;exact ⟨rfl,rfl⟩)) | trivial | rfl | (rw [i64_succ (by omega)]) | omega)))
   exact ltXs_refl (hz _)
  have k1:min 1 (l.length + 1 - i) = 1:=by omega
  have k2:min i l.length = i:=by omega
  have k3:min (l.length - i) (l.length + 1 - (i + 1)) = l.length - i:=by omega
  have k4:(1:Nat) + (l.length + 1 - i - 1) = l.length + 1 - i:=by omega
  simp only [tl,tl2,tl4,↓un_u,isCallR,entX,argFr,ret,retI,retB,intT,unT,endR,ressR,resR,tupT,bslR,boxR,lenAll,↓reduceIte,Nat.reduceEqDiff,Nat.reduceAdd,Nat.reduceMul,Nat.reduceLT,Nat.reduceLeDiff,reduceCtorEq,Int.reduceLE,Int.reduceLT,ne_eq,Int.reduceEq,not_false_eq_true,decide_true,decide_false,Int.reduceToNat,tl3,Int.reduceBNe,Int.reduceBEq,rmK,rm1,not_true_eq_false,List.length_map,List.length_append,List.length_replicate,List.length_take,List.length_drop,e1,e2,e3,e4,e5,hw,hw2,hw3,Nat.sub_zero,Nat.zero_add,List.drop_zero,k1,k2,k3,Nat.min_self,e6]
  refine ⟨by omega,by omega,by omega,by omega,by omega,by kernel_rfl,?_⟩
  rw [ins_grow (l.map vI) ((l.take i).map vI) (List.replicate (l.length + 1 - i) (.v (.int .i64 0))) (vI x) i l.length (by simp) (by simp;omega) (by simp) h2]
  refine .cutv 1 rfl ?_ rfl ?_ ?_
  ·simp only [List.length_append,List.length_drop,List.length_map,List.length_cons,List.length_take];omega
  ·simp only [List.length_append,List.length_drop,List.length_map,List.length_cons,List.length_take];omega
  simp only [cutSt]
  rw [List.take_of_length_le (by simp only [List.length_append,List.length_drop,List.length_map,List.length_cons,List.length_take];omega)]
  simp only [List.map_append,List.map_cons,List.map_drop]
  refine .of [(0,some 0),(1,some 1)] [] rfl (by first | rfl | (rw [hst];rfl)) ?_ ?_
  all_goals (try simp only [ltSto,ltO2,ltO1,ltAs,ltA,ltC,ltC0,ltC0s,ltCs,ltT,ltFr,ltS,wrOk,wrO,TL.get,hasFr,↓reduceIte,Nat.reduceEqDiff,reduceCtorEq,Option.getD_some,Option.isSome_some,List.length_map,List.length_append,List.length_cons,List.length_nil,List.append_nil,List.mem_singleton,List.mem_cons,List.not_mem_nil,and_true,true_and,and_self,imp_self,forall_const,false_implies,implies_true,true_implies,or_false,Bool.false_eq_true,Bool.true_eq_false,ImXs_nil,true_or,or_true,false_or,false_and,and_false,rmK,rm1,List.map_append,List.map_cons,List.map_nil,List.cons_append,List.nil_append])
  all_goals (try (repeat' (first | exact ltXs_nil | (apply ltXs_map;intro _;exact ⟨rfl,rfl⟩) | (apply imXs_map;intro _;exact ⟨rfl,rfl⟩) | with_reducible apply imXs_append | with_reducible refine imXs_cons ⟨rfl,rfl⟩ ?_ | exact imXs_nil | with_reducible apply ltXs_append | with_reducible refine ltXs_cons ⟨rfl,rfl,?_⟩ ?_ | with_reducible apply And.intro | exact ltCs_im rfl | exact ltCs_im (by assumption) | (refine ⟨⟨?_,rfl,?_,rfl,?_⟩,trivial⟩ <;> first | (simp;done) | (apply imXs_map;intro _;exact ⟨rfl,rfl⟩)) | trivial | rfl | (rw [i64_succ (by omega)]) | omega)))
  all_goals (simp only [← List.map_drop,← List.map_take];apply ltXs_map;intro _;exact ⟨rfl,rfl⟩)
 refine ⟨by omega,?_⟩
 refine C1.ovl ovl_slices_overlaps_int (by decide) rfl rfl (by rw [List.length_append,List.length_map,hJl];omega) ?_
 have k1:min 1 (l.length + 1 - i) = 1:=by omega
 have k2:l.length + (c - l.length) = c:=by omega
 have k3:min (min (l.length + 1 - i) (c - i)) (l.length + 1 - (i + 1)) = l.length - i:=by omega
 have k4:min (i + 1) c = i + 1:=by omega
 simp only [tl,tl2,tl4,↓un_u,isCallR,entX,argFr,ret,retI,retB,intT,unT,endR,ressR,resR,tupT,bslR,boxR,lenAll,↓reduceIte,Nat.reduceEqDiff,Nat.reduceAdd,Nat.reduceMul,Nat.reduceLT,Nat.reduceLeDiff,reduceCtorEq,Int.reduceLE,Int.reduceLT,ne_eq,Int.reduceEq,not_false_eq_true,decide_true,decide_false,Int.reduceToNat,tl3,Int.reduceBNe,Int.reduceBEq,rmK,rm1,not_true_eq_false,List.length_map,List.length_append,List.length_take,List.length_drop,hJl,e1,e2,e3,e4,e5,hw,hw2,hw3,Nat.sub_zero,Nat.zero_add,List.drop_zero,k1,k2,k3,k4,Nat.min_self]
 refine ⟨by omega,by omega,by omega,by kernel_rfl,by omega,by omega,?_⟩
 rw [ins_room (l.map vI) J (vI x) i l.length (by simp) h2]
 have hfl:(List.take i (List.map vI l) ++ vI x :: List.drop i (List.map vI l)).length = l.length + 1:=by
  simp only [List.length_append,List.length_drop,List.length_map,List.length_cons,List.length_take];omega
 refine .cutv 1 rfl ?_ rfl ?_ ?_
 ·rw [List.length_append,hfl,List.length_drop,hJl];omega
 ·rw [List.length_append,hfl,List.length_drop,hJl];omega
 simp only [cutSt]
 rw [List.take_append_of_le_length (by rw [hfl];exact Nat.le_refl _),List.take_of_length_le (by rw [hfl];exact Nat.le_refl _)]
 simp only [List.map_append,List.map_cons,List.map_drop,List.map_take]
 refine .of [(0,some 0),(1,some 1)] [] rfl (by first | rfl | (rw [hst];rfl)) ?_ ?_
 all_goals (try simp only [ltSto,ltO2,ltO1,ltAs,ltA,ltC,ltC0,ltC0s,ltCs,ltT,ltFr,ltS,wrOk,wrO,TL.get,hasFr,↓reduceIte,Nat.reduceEqDiff,reduceCtorEq,Option.getD_some,Option.isSome_some,List.length_map,List.length_append,List.length_cons,List.length_nil,List.append_nil,List.mem_singleton,List.mem_cons,List.not_mem_nil,and_true,true_and,and_self,imp_self,forall_const,false_implies,implies_true,true_implies,or_false,Bool.false_eq_true,Bool.true_eq_false,ImXs_nil,true_or,or_true,false_or,false_and,and_false,rmK,rm1,List.map_append,List.map_cons,List.map_nil,List.cons_append,List.nil_append])
 all_goals (try (repeat' (first | exact ltXs_nil | (apply ltXs_map;intro _;exact ⟨rfl,rfl⟩) | (apply imXs_map;intro _;exact ⟨rfl,rfl⟩) | with_reducible apply imXs_append | with_reducible refine imXs_cons ⟨rfl,rfl⟩ ?_ | exact imXs_nil | with_reducible apply ltXs_append | with_reducible refine ltXs_cons ⟨rfl,rfl,?_⟩ ?_ | with_reducible apply And.intro | exact ltCs_im rfl | exact ltCs_im (by assumption) | (refine ⟨⟨?_,rfl,?_,rfl,?_⟩,trivial⟩ <;> first | (simp;done) | (apply imXs_map;intro _;exact ⟨rfl,rfl⟩)) | trivial | rfl | (rw [i64_succ (by omega)]) | omega)))
 all_goals (simp only [← List.map_drop,← List.map_take];apply ltXs_map;intro _;exact ⟨rfl,rfl⟩)
theorem c_slices_Delete_Lint (l:List (List Int)) (i:Nat) (hi:i < l.length) (hl:l.length < 4611686018427387904) :
 Spc Tryz.prog F_slices_Delete_Lint [.vw 0 l.length 0 l.length,vI i,vI (i + 1:Nat)] [(0,.arr 1 (l.map vIs) false)] (.asl 1 (l.length - 1)) [(0,.dead),(1,.arr 1 ((l.eraseIdx i).map vIs) false)]:=by
 refine spec_of_ir fn_slices_Delete_Lint mixm (by simp) fun e _ hst=>W_start ?_
 unfold ir_slices_Delete_Lint
 simp only [tl,tl2,tl4,↓un_u,isCallR,entX,argFr,ret,retI,retB,intT,unT,endR,ressR,resR,tupT,bslR,boxR,lenAll,↓reduceIte,Nat.reduceEqDiff,Nat.reduceAdd,Nat.reduceMul,Nat.reduceLT,Nat.reduceLeDiff,reduceCtorEq,Int.reduceLE,Int.reduceLT,ne_eq,Int.reduceEq,not_false_eq_true,decide_true,decide_false,Int.reduceToNat,tl3,Int.reduceBNe,Int.reduceBEq,rmK,rm1,not_true_eq_false,List.drop_zero,List.take_of_length_le (show (l.map vIs).length≤l.length by simp)]
 have h1:((i:Int) == ((i + 1:Nat):Int)) = false:=by simp;omega
 simp only [tl,tl2,tl4,↓un_u,isCallR,entX,argFr,ret,retI,retB,intT,unT,endR,ressR,resR,tupT,bslR,boxR,lenAll,↓reduceIte,Nat.reduceEqDiff,Nat.reduceAdd,Nat.reduceMul,Nat.reduceLT,Nat.reduceLeDiff,reduceCtorEq,Int.reduceLE,Int.reduceLT,ne_eq,Int.reduceEq,not_false_eq_true,decide_true,decide_false,Int.reduceToNat,tl3,Int.reduceBNe,Int.reduceBEq,rmK,rm1,not_true_eq_false,h1]
 have e0:(l.length:Int).toNat = l.length:=Int.toNat_natCast _
 have e1:(i:Int).toNat = i:=Int.toNat_natCast _
 have e2:((i + 1:Nat):Int).toNat = i + 1:=Int.toNat_natCast _
 have e3:(List.take (l.length - (i + 1)) (List.drop (i + 1) (List.map vIs l))) = (l.drop (i + 1)).map vIs:=by
  rw [← List.map_drop,List.take_of_length_le (by simp)]
 simp only [e0,e1,e2,e3,List.length_map,List.length_drop,Nat.sub_zero,Nat.zero_add]
 have ht:(List.take i (List.map vIs l)).length = i:=by rw [List.length_take,List.length_map];omega
 have e4:i + (l.length - (i + 1)) = l.length - 1:=by omega
 have e5:l.length - (l.length - 1) = 1:=by omega
 simp only [ht,e4,e5]
 refine ⟨by omega,by omega,by omega,⟨by omega,by omega⟩,by kernel_rfl,?_⟩
 have e6:((l.length - 1:Nat):Int).toNat = l.length - 1:=Int.toNat_natCast _
 rw [e6]
 refine ⟨by omega,by omega,by omega,?_⟩
 refine .cutv 1 rfl ?_ rfl ?_ ?_
 ·simp only [List.length_append,List.length_take,List.length_drop,List.length_map,List.length_replicate];omega
 ·simp only [List.length_append,List.length_take,List.length_drop,List.length_map,List.length_replicate];omega
 have hcut:∀ a b c:List T,a.length = l.length - 1→(a ++ b ++ c).take (l.length - 1) = a:=fun a b c h=>by
  rw [List.append_assoc,List.take_append_of_le_length (by omega),List.take_of_length_le (by omega)]
 have hcut2:∀ a c:List T,a.length = l.length - 1→(a ++ c).take (l.length - 1) = a:=fun a c h=>by
  rw [List.take_append_of_le_length (by omega),List.take_of_length_le (by omega)]
 have hfin:(List.take (l.length - 1) (List.take i (List.map vIs l) ++ List.map vIs (List.drop (i + 1) l) ++ List.drop (l.length - 1) (List.map vIs l))) = (l.eraseIdx i).map vIs:=by
  rw [hcut2 _ _ (by simp only [List.length_append,List.length_take,List.length_drop,List.length_map];omega),List.eraseIdx_eq_take_drop_succ,List.map_append,List.map_take]
 simp only [cutSt,hfin]
 rw [hcut _ _ _ (by rw [List.length_map,List.length_eraseIdx_of_lt hi])]
 exact .oA [(0,some 0),(1,some 1)] []
end Go.Proofs
set_option linter.unusedSimpArgs false
set_option linter.unusedVariables false
namespace Go.Proofs
open Go Go.TL
set_option maxRecDepth 4000
set_option maxHeartbeats 8000000
abbrev ownO (s:Sch) (i n j m:Nat) (v:Int):Ob:=.arr 5 [.agg [.sl 2 (s.lists.map cdlT),.sl 7 (s.cols.map colT),.asl i n,.asl j m,vI v]] false
abbrev ownS3 (s:Src):Sto:=[(0,ownO s.sch 1 s.rows.length 2 s.gone.length s.ver),(1,.arr 1 (s.rows.map vIs) false),(2,.arr 1 (s.gone.map vI) false)]
def putE (s:Src) (r:List Int) (rep:Bool):Int:=
 if rowE s.sch r≠0 then 9 else if s.gone.contains (hd r) = true then 20 else if rep = true∧hasK s.rows (hd r) = false then 19
 else if rep = true then 0 else if hasK s.rows (hd r) = true then 10 else if s.rows.length = 200 then 1 else 0
theorem SrcOk.rw {s:Src} (h:SrcOk s):RwId s.rows:=⟨h.asc,fun r hr=>row_pos (h.rows r hr),fun r hr=>hd_in (h.rows r hr),by have:=h.nr;omega⟩
abbrev ownRep (s:Src) (r:List Int):Sto:=[(0,ownO s.sch 1 s.rows.length 2 s.gone.length s.ver),(1,.arr 1 ((s.rows.set (fndN s.rows (hd r)) r).map vIs) false),(2,.arr 1 (s.gone.map vI) false)]
abbrev insR (l:List (List Int)) (r:List Int):List (List Int):=l.take (fndN l (hd r)) ++ r :: l.drop (fndN l (hd r))
abbrev ownAdd (s:Src) (r:List Int):Sto:=[(0,ownO s.sch 3 (s.rows.length + 1) 2 s.gone.length s.ver),(1,.dead),(2,.arr 1 (s.gone.map vI) false),(3,.arr 1 ((insR s.rows r).map vIs) false)]
theorem c_source_put (s:Src) (h:SrcOk s) (r:List Int) (rep:Bool) (hr:r.length < 4611686018427387904) (St:Sto) (hb:putE s r rep≠0→St = ownS3 s) (hre:putE s r rep = 0→rep = true→St = ownRep s r) (had:putE s r rep = 0→rep = false→St = ownAdd s r) :
 Spc Tryz.prog F_source_put [.ptr 0 1 0 0,vIs r,vB rep] (ownS3 s) (vI (putE s r rep)) St:=by
 have hV:putE s r rep = if rowE s.sch r≠0 then 9 else if s.gone.contains (hd r) = true then 20 else if rep = true∧hasK s.rows (hd r) = false then 19 else if rep = true then 0 else if hasK s.rows (hd r) = true then 10 else if s.rows.length = 200 then 1 else 0:=rfl
 generalize putE s r rep = E at hb hre had hV ⊢
 have hF:=c_schema_Fits s.sch h.sch r hr
 refine spec_of_ir fn_source_put mixm (by simp) fun e _ hst=>W_start ?_
 unfold ir_source_put
 refine sW ?_
 refine C1.im hF (by rfl) (by rfl) ?_
 simp only [tZ,↓un_u,simprocAttr,Bool.not_eq_true',Bool.not_eq_false',beq_iff_eq,beq_eq_false_iff_ne]
 refine ⟨fun h1=>?_,fun h1=>?_⟩
 ·rw [if_pos h1] at hV
  rw [hb (by rw [hV];decide),hV]
  exact .oA [(0,some 0),(1,some 1),(2,some 2)] []
 rw [if_neg (by rw [h1];simp)] at hV
 have hpr:=row_pos h1
 have hgi:=getD_hd hpr
 have hng:=h.ng
 have hct:=c_slices_Contains_int s.gone (hd r) (by omega)
 have hid:=hd_in h1
 have hpl:=c_source_place s (hd r) h.rw (by unfold idOk;omega)
 rw [plc_fnd h.rw hid] at hpl
 simp only [tZ,↓un_u,simprocAttr,Int.toNat_natCast,hgi]
 refine ⟨by omega,?_⟩
 refine C1.lend [2] hct ?_ (by rfl) (by rfl) ?_
 ·all_goals (try exact clA)
 simp only [tZ,↓un_u,simprocAttr,hgi]
 refine ⟨by kernel_rfl,fun h2=>?_,fun h2=>?_⟩
 ·rw [if_pos h2] at hV
  rw [hb (by rw [hV];decide),hV]
  exact .oA [(0,some 0),(1,some 1),(2,some 2)] []
 rw [if_neg (by rw [h2];simp)] at hV
 refine ⟨by omega,?_⟩
 refine C1.lend [1,2] hpl ?_ (by rfl) (by rfl) ?_
 ·all_goals (try exact clA)
 have hnr:=h.nr
 have hcl:=c_slices_Clone_int r (by have:=(rowE_ok h1).2.1;have:=(schE_ok h.sch).nc;omega)
 simp only [tZ,↓un_u,simprocAttr,tD,Bool.not_eq_true',Bool.not_eq_false',beq_iff_eq,beq_eq_false_iff_ne]
 refine ⟨by kernel_rfl,fun h3=>?_,fun h3=>⟨fun h4=>?_,fun h4=>⟨fun h5=>?_,fun h5=>⟨fun h6=>?_,fun h6=>?_⟩⟩⟩⟩
 ·rw [if_pos h3] at hV
  rw [hb (by rw [hV];decide),hV]
  exact .oA [(0,some 0),(1,some 1),(2,some 2)] []
 ·rw [if_neg (by rw [h4] at h3 ⊢;simpa using h3),if_pos h4] at hV
  have hk:hasK s.rows (hd r) = true:=by rw [h4] at h3;simpa using h3
  obtain ⟨f2,f3⟩:=fndN_at h.asc hk
  rw [hre hV h4,hV]
  refine C1.im hcl (by rfl) (by rfl) ?_
  simp only [tZ,↓un_u,simprocAttr,Int.toNat_natCast,getD_mapT f2,show ∀ a b:List Int,repl (vIs a) 0 (vIs b) = vIs b from fun _ _=>rfl]
  refine ⟨by omega,by omega,by kernel_rfl,?_⟩
  rw [← List.map_set]
  exact .oA [(0,some 0),(1,some 1),(2,some 2)] []
 ·rw [if_neg (by rw [h4];simp),if_neg (by rw [h4];simp),if_pos h5] at hV
  rw [hb (by rw [hV];decide),hV]
  exact .oA [(0,some 0),(1,some 1),(2,some 2)] []
 ·rw [if_neg (by rw [h4];simp),if_neg (by rw [h4];simp),if_neg (by rw [h5];simp),if_pos (by omega)] at hV
  rw [hb (by rw [hV];decide),hV]
  exact .oA [(0,some 0),(1,some 1),(2,some 2)] []
 ·rw [if_neg (by rw [h4];simp),if_neg (by rw [h4];simp),if_neg (by rw [h5];simp),if_neg (by omega)] at hV
  rw [had hV h4,hV]
  have hfl:=fndN_le s.rows (hd r)
  have hin:=c_slices_Insert_Lint s.rows r (fndN s.rows (hd r)) hfl (by omega)
  refine C1.im hcl (by rfl) (by rfl) ?_
  refine sW ?_
  refine C1.cutbackF 1 28708 1 28704 hin rfl rfl (by apply imXs_map;intro _;exact ⟨rfl,rfl⟩) (by apply imXs_map;intro _;exact ⟨rfl,rfl⟩) (by rfl) (by decide) ?_ ?_
  ·all_goals (try exact clA)
  refine sW ?_
  refine ⟨by rw [List.length_take,List.length_drop];omega,by kernel_rfl,?_⟩
  exact .oA [(0,some 0),(1,some 1),(2,some 2),(3,some 28708)] []
end Go.Proofs
set_option linter.unusedSimpArgs false
set_option linter.unusedVariables false
namespace Go.Proofs
open Go Go.TL
set_option maxRecDepth 4000
set_option maxHeartbeats 8000000
def chgE (s:Src) (d:Edt):Int:=
 if d.kind = 1∨d.kind = 2 then putE s d.row (d.kind == 2) else if d.kind = 3 then (if hasK s.rows d.id = false then 19 else 0)
 else if d.kind = 4 then (if d.id < 1∨d.id > 1048575 then 2 else if s.gone.contains d.id = true then 20 else 0) else 4
abbrev delR (l:List (List Int)) (id:Int):List (List Int):=l.eraseIdx (fndN l id)
abbrev insG (l:List Int) (id:Int):List Int:=l.take (insN l id) ++ id :: l.drop (insN l id)
abbrev ownDel (s:Src) (id:Int):Sto:=[(0,ownO s.sch 3 (s.rows.length - 1) 2 s.gone.length s.ver),(1,.dead),(2,.arr 1 (s.gone.map vI) false),(3,.arr 1 ((delR s.rows id).map vIs) false)]
abbrev ownWd (s:Src) (id:Int):Sto:=[(0,ownO s.sch 1 s.rows.length 4 (s.gone.length + 1) s.ver),(1,.arr 1 (s.rows.map vIs) false),(2,.dead),(4,.arr 1 ((insG s.gone id).map vI) false)]
abbrev ownWdD (s:Src) (id:Int):Sto:=[(0,ownO s.sch 3 (s.rows.length - 1) 4 (s.gone.length + 1) s.ver),(1,.dead),(2,.dead),(3,.arr 1 ((delR s.rows id).map vIs) false),(4,.arr 1 ((insG s.gone id).map vI) false)]
theorem c_source_change (s:Src) (h:SrcOk s) (d:Edt) (hr:d.row.length < 4611686018427387904) (hi:idOk d.id) (St:Sto) (hb:chgE s d≠0→St = ownS3 s) (h1:chgE s d = 0→d.kind = 1→St = ownAdd s d.row) (h2:chgE s d = 0→d.kind = 2→St = ownRep s d.row)
 (h3:chgE s d = 0→d.kind = 3→St = ownDel s d.id) (h4:chgE s d = 0→d.kind = 4→St = if hasK s.rows d.id = true then ownWdD s d.id else ownWd s d.id) :
 Spc Tryz.prog F_source_change [.ptr 0 1 0 0,edtT d] (ownS3 s) (vI (chgE s d)) St:=by
 have hV:chgE s d = if d.kind = 1∨d.kind = 2 then putE s d.row (d.kind == 2) else if d.kind = 3 then (if hasK s.rows d.id = false then 19 else 0)
  else if d.kind = 4 then (if d.id < 1∨d.id > 1048575 then 2 else if s.gone.contains d.id = true then 20 else 0) else 4:=rfl
 generalize chgE s d = E at hb h1 h2 h3 h4 hV ⊢
 have hpl:=c_source_place s d.id h.rw hi
 have hnr:=h.nr
 have hng:=h.ng
 refine spec_of_ir fn_source_change mixm (by simp) fun e _ hst=>W_start ?_
 unfold ir_source_change
 refine sW ?_
 refine C1.lend [1,2] hpl ?_ (by rfl) (by rfl) ?_
 ·all_goals (try exact clA)
 simp only [tZ,↓un_u,simprocAttr,tD,beq_iff_eq,beq_eq_false_iff_ne,Bool.not_eq_true',Bool.not_eq_false']
 have hP:=c_source_put s h d.row (d.kind == 2) hr St
 refine ⟨by kernel_rfl,fun k1=>⟨fun _=>?_,fun k=>absurd k1 k⟩,fun k1=>⟨fun k2=>?_,fun k2=>?_⟩⟩
 ·rw [if_pos (.inl k1)] at hV
  have hP:=hP (fun e=>hb (by rw [hV];exact e)) (fun e r=>by rw [k1] at r;cases r) (fun e _=>h1 (by rw [hV];exact e) k1)
  have hPE:putE s d.row (d.kind == 2) = E:=hV.symm
  rw [hPE] at hP
  by_cases hE:E = 0
  ·rw [h1 hE k1,hE] at hP
   rw [h1 hE k1,hE]
   refine C1.of [(0,some 0),(1,some 1),(2,some 2)] [(0,some 0),(2,some 2),(3,some 3)] [] (ownAdd s d.row) hP ?_ (by rfl) ?_ (by rfl) (by rfl) ?_ (by rfl) (by rfl) (ltT_im (by rfl)) (.inl (by rfl)) ?_
   ·all_goals (try exact clA)
   ·all_goals (try exact clA)
   ·simp only [wrOk,wrO,TL.get,ltO1]
    all_goals (try exact clA)
   refine sW ?_
   exact .oA [(0,some 0),(1,some 1),(2,some 2),(3,some 3)] []
  ·rw [hb hE] at hP ⊢
   refine C1.of [(0,some 0),(1,some 1),(2,some 2)] [(0,some 0),(1,some 1),(2,some 2)] [] (ownS3 s) hP ?_ (by rfl) ?_ (by rfl) (by rfl) ?_ (by rfl) (by rfl) (ltT_im (by rfl)) (.inl (by rfl)) ?_
   ·all_goals (try exact clA)
   ·all_goals (try exact clA)
   ·simp only [wrOk,wrO,TL.get,ltO1]
    all_goals (try exact clA)
   refine sW ?_
   exact .oA [(0,some 0),(1,some 1),(2,some 2)] []
 ·rw [if_pos (.inr k2)] at hV
  have hP:=hP (fun e=>hb (by rw [hV];exact e)) (fun e r=>h2 (by rw [hV];exact e) k2) (fun e r=>by rw [k2] at r;cases r)
  have hPE:putE s d.row (d.kind == 2) = E:=hV.symm
  rw [hPE] at hP
  by_cases hE:E = 0
  ·rw [h2 hE k2,hE] at hP
   rw [h2 hE k2,hE]
   refine C1.of [(0,some 0),(1,some 1),(2,some 2)] [(0,some 0),(1,some 1),(2,some 2)] [] (ownRep s d.row) hP ?_ (by rfl) ?_ (by rfl) (by rfl) ?_ (by rfl) (by rfl) (ltT_im (by rfl)) (.inl (by rfl)) ?_
   ·all_goals (try exact clA)
   ·all_goals (try exact clA)
   ·simp only [wrOk,wrO,TL.get,ltO1]
    all_goals (try exact clA)
   refine sW ?_
   exact .oA [(0,some 0),(1,some 1),(2,some 2)] []
  ·rw [hb hE] at hP ⊢
   refine C1.of [(0,some 0),(1,some 1),(2,some 2)] [(0,some 0),(1,some 1),(2,some 2)] [] (ownS3 s) hP ?_ (by rfl) ?_ (by rfl) (by rfl) ?_ (by rfl) (by rfl) (ltT_im (by rfl)) (.inl (by rfl)) ?_
   ·all_goals (try exact clA)
   ·all_goals (try exact clA)
   ·simp only [wrOk,wrO,TL.get,ltO1]
    all_goals (try exact clA)
   refine sW ?_
   exact .oA [(0,some 0),(1,some 1),(2,some 2)] []
 rw [if_neg (by omega)] at hV
 refine ⟨fun k3=>⟨fun h5=>?_,fun h5=>⟨fun _=>?_,fun k=>by rw [h5] at k;cases k⟩⟩,fun k3=>⟨fun k4=>?_,fun k4=>?_⟩⟩
 ·rw [if_pos k3,if_pos h5] at hV
  rw [hb (by rw [hV];decide),hV]
  exact .oA [(0,some 0),(1,some 1),(2,some 2)] []
 ·rw [if_pos k3,if_neg (by rw [h5];simp)] at hV
  rw [h3 hV k3,hV]
  have hid:=hasK_ids h.rw.ids h5
  have hpf:=plc_fnd h.rw hid
  obtain ⟨f2,_⟩:=fndN_at h.asc h5
  have hw:=i64_succ (i:=fndN s.rows d.id) (by omega)
  have hde:=c_slices_Delete_Lint s.rows (fndN s.rows d.id) f2 (by omega)
  rw [hpf,hw]
  refine C1.cut0 1 77860 1 hde rfl (by apply imXs_map;intro _;exact ⟨rfl,rfl⟩) (by apply imXs_map;intro _;exact ⟨rfl,rfl⟩) (by rfl) ?_ ?_
  ·all_goals (try exact clA)
  refine sW ?_
  refine ⟨by rw [List.length_eraseIdx_of_lt f2],?_⟩
  exact .oA [(0,some 0),(1,some 1),(2,some 2),(3,some 77860)] []
 ·rw [if_neg k3,if_pos k4] at hV
  refine ⟨fun h5=>?_,fun h5=>?_⟩
  ·rw [if_pos h5] at hV
   rw [hb (by rw [hV];decide),hV]
   exact .oA [(0,some 0),(1,some 1),(2,some 2)] []
  rw [if_neg (by omega)] at hV
  have hB:=c_slices_BinarySearch_int s.gone d.id h.gasc (by omega)
  refine C1.lend [2] hB ?_ (by rfl) (by rfl) ?_
  ·all_goals (try exact clA)
  refine sW ?_
  refine ⟨by kernel_rfl,fun h6=>?_,fun h6=>?_⟩
  ·rw [if_pos h6] at hV
   rw [hb (by rw [hV];decide),hV]
   exact .oA [(0,some 0),(1,some 1),(2,some 2)] []
  rw [if_neg (by rw [h6];simp)] at hV
  have hil:insN s.gone d.id≤s.gone.length:=List.findIdx_le_length
  have hin:=c_slices_Insert_int s.gone d.id (insN s.gone d.id) hil (by omega)
  have hgl:(insG s.gone d.id).length = s.gone.length + 1:=by rw [List.length_append,List.length_cons,List.length_take,List.length_drop];omega
  have hh:=h4 hV k4
  refine C1.cutbackF 2 69668 1 69664 hin rfl rfl (by apply imXs_map;intro _;exact ⟨rfl,rfl⟩) (by apply imXs_map;intro _;exact ⟨rfl,rfl⟩) (by rfl) (by decide) ?_ ?_
  ·all_goals (try exact clA)
  refine sW ?_
  refine ⟨by rw [List.length_take,List.length_drop];omega,by kernel_rfl,fun h7=>?_,fun h7=>?_⟩
  ·rw [if_pos h7] at hh
   rw [hh,hV]
   have hid:=hasK_ids h.rw.ids h7
   have hpf:=plc_fnd h.rw hid
   obtain ⟨f2,_⟩:=fndN_at h.asc h7
   have hw:=i64_succ (i:=fndN s.rows d.id) (by omega)
   have hde:=c_slices_Delete_Lint s.rows (fndN s.rows d.id) f2 (by omega)
   rw [hpf,hw]
   refine C1.cut0 1 77860 1 hde rfl (by apply imXs_map;intro _;exact ⟨rfl,rfl⟩) (by apply imXs_map;intro _;exact ⟨rfl,rfl⟩) (by rfl) ?_ ?_
   ·all_goals (try exact clA)
   refine sW ?_
   refine ⟨by rw [List.length_eraseIdx_of_lt f2],?_⟩
   exact .oA [(0,some 0),(1,some 1),(2,some 2),(3,some 77860),(4,some 69668)] []
  ·rw [if_neg (by rw [h7];simp)] at hh
   rw [hh,hV]
   exact .oA [(0,some 0),(1,some 1),(2,some 2),(4,some 69668)] []
 ·rw [if_neg k3,if_neg k4] at hV
  rw [hb (by rw [hV];decide),hV]
  exact .oA [(0,some 0),(1,some 1),(2,some 2)] []
end Go.Proofs
