/- A part of the proof: trees of Go values, short forms, contracts. -/
import Derived.WalkKit
import Derived.Still
import Derived.MapKept
import GoSem.Builtin.Cap
import Derived.Laws.Externs
import GoSem.Extern.SlicesOverlaps
import Derived.Carry
import Derived.ProofKit
import Derived.OpenShut
import Derived.HandedShaped
import Derived.Lay
import Derived.LaidLaws
import Derived.MakeChecks
import Derived.SevenTiedAt
import Derived.Test.YtjckmmphmhafjaaGreatDoorChecked
import Derived.Test.YtjckmmphmhafjaaGreatDoorK16
set_option linter.unusedSimpArgs false
set_option linter.unusedVariables false
namespace Go.Proofs
open Go Go.TL
theorem finI_ok {s:Sch} {c:Int} (h:0≤finI s c):schE s = 0∧1≤c∧c < s.cols.length∧finI s c = (if (colAt s c.toNat).kind = 2 then lvlsL (cdlAt s c.toNat) - 1 else (colAt s c.toNat).widths.length):=by
 unfold finI at h ⊢
 split at h
 ·omega
 ·rename_i h1
  rw [if_neg h1]
  exact ⟨by omega,by omega,by omega,rfl⟩
theorem inB_ok {n lo hi:Int}:inB n lo hi = true↔lo≤n∧n≤hi:=by simp [inB]
theorem SchOk.wid {s:Sch} (h:SchOk s) {i:Nat} (hi:i < s.cols.length) (h0:0 < i) (hk:(colAt s i).kind≠2) {lev:Int} (hl:1≤lev∧lev≤(colAt s i).widths.length) :
 1≤widthI (colAt s i) lev∧widthI (colAt s i) lev≤1000000∧(colAt s i).kind = 3∧(colAt s i).widths.length≤4∧-1000000≤(colAt s i).low∧(colAt s i).high≤1000000∧(colAt s i).low≤(colAt s i).high∧widthI (colAt s i) (colAt s i).widths.length = 1:=by
 have hk2:=colE_kind (h.cs i hi)
 have hk3:(colAt s i).kind = 3:=by have:=hk2.2.2.1 h0;omega
 have hm:=hk2.2.2.2.2 hk3
 generalize colAt s i = c at hl hm hk3 ⊢
 unfold measE at hm
 split at hm
 ·cases hm
 rename_i h1
 split at hm
 ·cases hm
 rename_i h2
 split at hm
 ·cases hm
 rename_i h3
 rw [Bool.not_eq_false] at h3
 have hw:∀ j,j < c.widths.length→wdOk c.widths j = true:=fun j hj=>List.all_eq_true.1 h3 j (List.mem_range.2 hj)
 have e1:inB c.low (-1000000) 1000000 = true:=by grind
 have e2:inB c.high (-1000000) 1000000 = true:=by grind
 rw [inB_ok] at e1 e2
 have hn:((c.widths.length:Int) - lev).toNat < c.widths.length:=by omega
 have hp:=wd_pos (ws:=c.widths) hw _ hn
 have h0:=hw 0 (by omega)
 rw [wdOk,if_pos rfl,beq_iff_eq] at h0
 have hmax:c.widths.getD ((c.widths.length:Int) - lev).toNat 0≤1000000:=by
  have:=hw _ hn
  unfold wdOk at this
  split at this
  ·rename_i e;rw [e,h0];omega
  ·simp only [Bool.and_eq_true,decide_eq_true_eq] at this;omega
 refine ⟨hp,hmax,hk3,by omega,by omega,by omega,by omega,?_⟩
 rw [widthI,show ((c.widths.length:Int) - c.widths.length).toNat = 0 by omega,h0]
theorem floor_mul {v w:Int} (hw:0 < w):v - w < floorI v w * w∧floorI v w * w≤v:=by
 unfold floorI
 rw [Int.fdiv_eq_ediv_of_nonneg _ (by omega),Int.mul_comm]
 have h1:=Int.mul_ediv_add_emod v w
 have h2:=Int.emod_nonneg v (b:=w) (by omega)
 have h3:=Int.emod_lt_of_pos v hw
 omega
theorem floor_le {v w:Int} (hw:0 < w) (hv : -4611686018427387904 < v∧v < 4611686018427387904) : -4611686018427387904 < floorI v w∧floorI v w < 4611686018427387904:=by
 have hq:=Int.natAbs_tdiv_le_natAbs v w
 have h1:=Int.mul_tdiv_add_tmod v w
 rw [floor_eq hw]
 unfold floorI at *
 split
 ·rename_i h
  have h2:v < 0:=Classical.byContradiction fun k=>by
   have:=Int.tmod_nonneg w (show 0≤v by omega)
   omega
  have h3 : -4611686018427387904 < v.tdiv w - 1:=by
   by_cases e:w = 1
   ·subst e;rw [Int.tmod_one] at h;omega
   ·refine Classical.byContradiction fun k=>?_
    have h4:v.tdiv w≤-4611686018427387903:=by omega
    have h5:w * v.tdiv w≤2 * v.tdiv w:=Int.mul_le_mul_of_nonpos_right (by omega) (by omega)
    have h6:=Int.lt_tmod_of_pos v hw
    have h7:=Int.tmod_lt_of_pos v hw
    omega
  omega
 ·omega
theorem c_ref02_Coarse (s:Sch) (hs:SchSm s) (c lev v:Int):Spc Tryz.prog F_ref02_Coarse [schT s,vI c,vI lev,vI v] [] (vI (coarseI s c lev v)) []:=by
 refine spec_of_ir fn_ref02_Coarse mixm (by simp) fun e _ hst=>W_start ?_
 unfold ir_ref02_Coarse
 refine sW ?_
 refine C1.im (c_ref02_Finest s hs c) (by rfl) (by rfl) ?_
 refine sW ?_
 refine C1.im (c_ref02_in lev 0 (finI s c)) (by rfl) (by rfl) ?_
 simp only [tZ,↓un_u,simprocAttr,Bool.not_eq_true',Bool.not_eq_false']
 refine ⟨fun h=>?_,fun h=>?_⟩
 ·rw [coarseI,if_pos h]
  exact .oA [] []
 rw [inB_ok] at h
 obtain ⟨hE,c1,c2,hfin⟩:=finI_ok (s:=s) (c:=c) (by omega)
 have hok:=schE_ok hE
 obtain ⟨i,rfl⟩:=Int.eq_ofNat_of_zero_le (show 0≤c by omega)
 rw [Int.toNat_natCast] at hfin
 have hi:i < s.cols.length:=by omega
 have hat:colAt s i = s.cols[i]:=by rw [colAt,getD_get hi]
 have hk:=colE_kind (hok.cs i hi)
 have hcd:=fun e=>hok.cdl hi e
 have hwd:=fun e l=>hok.wid hi (by omega) e (lev:=l)
 have hcl:cdlAt s i = s.lists.getD s.cols[i].list.toNat default:=by rw [cdlAt,hat]
 have hE2:coarseI s i lev v = if s.cols[i].kind = 2 then (if holdsB s i v = false then -1 else upC (cdlAt s i) v lev)
  else if v≠missI∧inB v (-1000000) 1000000 = false then -1
  else if lev = 0 then 0 else if v = missI then v else floorI v (widthI s.cols[i] lev) * widthI s.cols[i] lev:=by
  rw [coarseI,if_neg (by rw [Bool.not_eq_false,inB_ok];exact h),Int.toNat_natCast,hat]
 rw [hE2]
 rw [hat] at hk hcd hwd hfin
 rw [hcl] at hcd ⊢
 simp only [tZ,↓un_u,simprocAttr,Int.toNat_natCast,getD_mapT hi]
 have hho:=c_ref02_Holds s hok i hi v
 generalize s.cols[i] = x at hk hcd hwd hfin ⊢
 simp only [tZ,↓un_u,simprocAttr,beq_iff_eq,beq_eq_false_iff_ne]
 refine ⟨by omega,fun h2=>?_,fun h2=>?_⟩
 ·rw [if_pos h2]
  obtain ⟨d1,d2⟩:=hcd h2
  obtain ⟨d3,d4⟩:=hk.2.2.2.1 h2
  have hgl:s.lists.getD x.list.toNat default = s.lists[x.list.toNat]:=getD_get d1
  rw [hgl] at d2 ⊢
  obtain ⟨_,d5,d6⟩:=lstE_par d2
  refine C1.im hho (by rfl) (by rfl) ?_
  simp only [tZ,↓un_u,simprocAttr,Bool.not_eq_true',Bool.not_eq_false']
  refine ⟨fun h3=>?_,fun h3=>?_⟩
  ·rw [if_pos h3]
   exact .oA [] []
  rw [if_neg (by rw [h3];simp)]
  simp only [tZ,↓un_u,simprocAttr,getD_mapT d1]
  generalize s.lists[x.list.toNat] = l at d2 d5 d6 ⊢
  refine ⟨by omega,?_⟩
  refine C1.im (c_ref01_Up l v lev (by omega)) (by rfl) (by rfl) ?_
  refine sW ?_
  exact .oA [] []
 rw [if_neg h2]
 rw [if_neg h2] at hfin
 refine C2.im (fun _=>c_ref02_in v (-1000000) 1000000) (fun _=>rfl) (by rfl) ?_
 simp only [tZ,↓un_u,simprocAttr,tD,bne_iff_ne,bne_eq_false_iff_eq,Bool.not_eq_true',Bool.not_eq_false',beq_iff_eq,beq_eq_false_iff_ne]
 rw [show (-1099511627776:Int) = missI from rfl]
 refine ⟨fun h3=>?_,fun h3=>?_⟩
 ·rw [if_pos h3]
  exact .oA [] []
 rw [if_neg (by grind)]
 refine ⟨fun h4=>?_,fun h4=>?_⟩
 ·rw [if_pos h4]
  exact .oA [] []
 rw [if_neg h4]
 refine ⟨fun h5=>?_,fun h5=>?_⟩
 ·rw [if_pos h5]
  exact .oA [] []
 rw [if_neg h5]
 have hv:inB v (-1000000) 1000000 = true:=by grind
 rw [inB_ok] at hv
 obtain ⟨w1,w2,w3,w4,_⟩:=hwd h2 lev (by omega)
 have hfm:=floor_mul (v:=v) (w:=widthI x lev) (by omega)
 have hw:IntKind.i64.wrap (floorI v (widthI x lev) * widthI x lev) = floorI v (widthI x lev) * widthI x lev:=IntWalk.i64_in _ (by omega)
 refine C1.im (c_ref02_Width x lev (by omega) (by omega)) (by rfl) (by rfl) ?_
 refine sW ?_
 refine C1.im (c_ref02_Floor v (widthI x lev) (by omega) (by omega)) (by rfl) (by rfl) ?_
 simp only [tZ,↓un_u,simprocAttr,hw]
 exact .oA [] []
theorem c_ref02_Leaves (s:Sch) (hok:SchOk s) (i:Nat) (hi:i < s.cols.length) (h2:(colAt s i).kind = 2):Spc Tryz.prog F_ref02_Leaves [schT s,vI i] [] (vIs (leavesL s i)) []:=by
 have hat:colAt s i = s.cols[i]:=by rw [colAt,getD_get hi]
 obtain ⟨d1,d2⟩:=hok.cdl hi h2
 obtain ⟨d3,d4⟩:=(colE_kind (hok.cs i hi)).2.2.2.1 h2
 have hcl:cdlAt s i = s.lists.getD s.cols[i].list.toNat default:=by rw [cdlAt,hat]
 rw [hcl] at d2
 rw [hat] at d1 d3 d4
 have hgl:s.lists.getD s.cols[i].list.toNat default = s.lists[s.cols[i].list.toNat]:=getD_get d1
 rw [hgl] at d2
 obtain ⟨_,d5,d6⟩:=lstE_par d2
 rw [leavesL,hcl,hgl]
 have hlv:=lvls_le (l:=s.lists[s.cols[i].list.toNat])
 have hw2:IntKind.i64.wrap (lvlsL s.lists[s.cols[i].list.toNat] - 1) = lvlsL s.lists[s.cols[i].list.toNat] - 1:=IntWalk.i64_in _ (by omega)
 refine spec_of_ir fn_ref02_Leaves mixm (by simp) fun e _ hst=>W_start ?_
 unfold ir_ref02_Leaves
 simp only [tZ,↓un_u,simprocAttr,Int.toNat_natCast,getD_mapT hi,getD_mapT d1]
 refine ⟨by omega,by omega,by kernel_rfl,?_⟩
 refine C1.im (c_ref01_Levels _ (by omega)) (by rfl) (by rfl) ?_
 simp only [tZ,↓un_u,simprocAttr,hw2]
 refine C1.im (c_ref01_At _ _ (by omega)) (by rfl) (by rfl) ?_
 refine sW ?_
 refine ⟨by kernel_rfl,?_⟩
 exact .oA [] []
theorem c_ref02_Pick (s:Sch) (hs:SchSm s) (p:Pk):Spc Tryz.prog F_ref02_Pick [schT s,pkT p] [] (vI (pickE s p)) []:=by
 refine spec_of_ir fn_ref02_Pick mixm (by simp) fun e _ hst=>W_start ?_
 unfold ir_ref02_Pick
 refine sW ?_
 refine C1.im (c_ref02_Check s hs) (by rfl) (by rfl) ?_
 simp only [tZ,↓un_u,simprocAttr,tD,bne_iff_ne,bne_eq_false_iff_eq]
 refine ⟨fun h=>?_,fun h=>⟨fun h2=>?_,fun h2=>?_⟩⟩
 ·rw [pickE,if_pos h]
  exact .oA [] []
 ·rw [pickE,if_neg (by rw [h];simp),if_pos (by omega)]
  exact .oA [] []
 rw [pickE,if_neg (by rw [h];simp),if_neg (by omega)]
 refine C1.im (c_ref02_Finest s hs p.col) (by rfl) (by rfl) ?_
 refine sW ?_
 refine C1.im (c_ref02_in p.lev 0 (finI s p.col)) (by rfl) (by rfl) ?_
 simp only [tZ,↓un_u,simprocAttr,Bool.not_eq_true',Bool.not_eq_false']
 refine ⟨by kernel_rfl,fun h3=>?_,fun h3=>?_⟩
 ·rw [if_pos h3]
  exact .oA [] []
 ·rw [if_neg (by rw [h3];simp)]
  exact .oA [] []
theorem c_ref02_Picks (s:Sch) (hs:SchSm s) (l:List Pk) (hl:l.length < 4611686018427387904):Spc Tryz.prog F_ref02_Picks [schT s,vPs l] [] (vI (picksE s l)) []:=by
 refine spec_of_ir fn_ref02_Picks mixm (by simp) fun e _ hst=>W_start ?_
 unfold ir_ref02_Picks
 refine sW ?_
 refine C1.im (c_ref02_Check s hs) (by rfl) (by rfl) ?_
 simp only [tZ,↓un_u,simprocAttr,bne_iff_ne,bne_eq_false_iff_eq]
 refine ⟨fun h=>?_,fun hE=>?_⟩
 ·rw [picksE,if_pos h]
  exact .oA [] []
 rw [picksE,if_neg (by rw [hE];simp)]
 refine W_loopF mixm (α:=Nat) [6] (fun i=>i≤l.length∧(firstE (pickAE s l) i = 0)) (fun i=>[(6,vI i)]) (fun i=>[(4096,.arr 2 [schT s] false)]) (fun i=>l.length - i) 0 ⟨by omega,?_⟩ ?_ fun i hi=>?_
 ·rfl
 ·exact .oA [(4096,some 4096)] []
 simp only [tZ,↓un_u,simprocAttr,decide_eq_true_eq,decide_eq_false_iff_not]
 refine ⟨fun h=>?_,fun h=>?_⟩
 ·have hi2:i < l.length:=by omega
  have hpi:pkAt l i = l[i]:=by rw [pkAt,getD_get hi2]
  have hstep:=firstE_hit hi.2 hi2
  have hnext:=firstE_next hi.2
  have hA:pickAE s l i = if pickE s l[i]≠0 then pickE s l[i] else if 0 < i∧l[i].col≤(pkAt l (i - 1)).col then 10 else 0:=by rw [pickAE,hpi]
  have hi2:i < l.length:=by omega
  have hwi:=i64_succ (i:=i) (by omega)
  simp only [tZ,↓un_u,simprocAttr,Int.toNat_natCast,getD_mapT hi2,hwi]
  refine ⟨by omega,?_⟩
  refine C1.im (c_ref02_Pick s hs l[i]) (by rfl) (by rfl) ?_
  simp only [tZ,↓un_u,simprocAttr,bne_iff_ne,bne_eq_false_iff_eq]
  refine ⟨by kernel_rfl,fun h3=>?_,fun h3=>?_⟩
  ·rw [if_pos h3] at hA
   rw [hstep (by rw [hA];exact h3),hA]
   exact .oA [] []
  rw [if_neg (by rw [h3];simp)] at hA
  rcases Nat.eq_zero_or_pos i with h0 | h0
  ·subst h0
   rw [if_neg (by omega)] at hA
   have hz:((0:Nat):Int) = 0:=rfl
   have hz2:(IntKind.i64.wrap (-1)).toNat = 0:=by decide
   have hz3:=i64_succ (i:=0) (by omega)
   rw [hz] at hz3
   simp only [tZ,↓un_u,simprocAttr,Int.toNat_natCast,hz,beq_self_eq_true,gt_iff_lt,Int.lt_irrefl,Bool.true_and,hz2,getD_mapT hi2,hz3]
   refine ⟨by kernel_rfl,1,⟨by omega,by rw [hnext,hA]⟩,by omega,?_⟩
   exact .oA [(4096,some 4096)] []
  ·obtain ⟨k,rfl⟩:∃ k,i = k + 1:=⟨i - 1,by omega⟩
   have hk3:k < l.length:=by omega
   have e2:decide (((k + 1:Nat):Int) > 0) = true:=decide_eq_true (by omega)
   have e3:=i64_pred (i:=k + 1) (by omega) (by omega)
   rw [Nat.add_sub_cancel] at e3 hA
   rw [pkAt,getD_get hk3] at hA
   simp only [tZ,↓un_u,simprocAttr,Int.toNat_natCast,getD_mapT hi2,getD_mapT hk3,e2,e3,hwi,tD]
   refine ⟨by omega,by omega,by kernel_rfl,fun h4=>?_,fun h4=>?_⟩
   ·rw [if_pos ⟨by omega,h4⟩] at hA
    rw [hstep (by rw [hA];simp),hA]
    exact .oA [] []
   ·rw [if_neg (by omega)] at hA
    refine ⟨k + 2,⟨by omega,by rw [hnext,hA]⟩,by omega,?_⟩
    exact .oA [(4096,some 4096)] []
 ·have hi2:i = l.length:=by omega
  subst hi2
  rw [hi.2]
  exact .oA [] []
theorem eqPk_iff {x y:Pk}:eqPk x y = true↔x = y:=by
 cases x;cases y
 simp [eqPk]
theorem samePk_iff {a b:List Pk}:samePk a b = true↔a = b:=sameL_iff fun x y=>eqPk_iff
theorem c_ref02_SamePicks (a b:List Pk) (ha:a.length < 4611686018427387904):Spc Tryz.prog F_ref02_SamePicks [vPs a,vPs b] [] (vB (samePk a b)) []:=by
 refine spec_of_ir fn_ref02_SamePicks mixm (by simp) fun e _ hst=>W_start ?_
 unfold ir_ref02_SamePicks
 simp only [tZ,↓un_u,simprocAttr,bne_iff_ne,bne_eq_false_iff_eq]
 refine ⟨fun h=>?_,fun h=>?_⟩
 ·rw [samePk,sameL_ne (by omega)]
  exact .oA [] []
 have hl:a.length = b.length:=by omega
 refine W_loopF mixm (α:=Nat) [5] (fun i=>i≤a.length∧(samePk (a.take i) (b.take i) = true)) (fun i=>[(5,vI i)]) (fun i=>[]) (fun i=>a.length - i) 0 ⟨by omega,?_⟩ ?_ fun i hi=>?_
 ·rfl
 ·exact .oA [] []
 simp only [tZ,↓un_u,simprocAttr,decide_eq_true_eq,decide_eq_false_iff_not]
 refine ⟨fun h=>?_,fun h=>?_⟩
 ·have hib:i < b.length:=by omega
  have hi2:i < a.length:=by omega
  have hwi:=i64_succ (i:=i) (by omega)
  simp only [tZ,↓un_u,simprocAttr,Int.toNat_natCast,getD_mapT hi2,hwi,getD_mapT hib]
  rw [show (a[i].col == b[i].col && a[i].lev == b[i].lev) = eqPk a[i] b[i] from rfl]
  refine ⟨by omega,by omega,by kernel_rfl,fun h3=>?_,fun h3=>⟨i + 1,⟨by omega,?_⟩,by omega,?_⟩⟩
  ·rw [samePk,sameL_false (i:=i) hl (by omega) h3]
   exact .oA [] []
  ·rw [samePk,sameL_snoc hi2 hib,← samePk,hi.2]
   simpa using h3
  ·exact .oA [] []
 ·have hi2:i = a.length:=by omega
  subst hi2
  have h3:=hi.2
  rw [List.take_length,List.take_of_length_le (by omega)] at h3
  rw [h3]
  exact .oA [] []
end Go.Proofs
set_option linter.unusedSimpArgs false
set_option linter.unusedVariables false
namespace Go.Proofs
open Go Go.TL
theorem leaves_len {s:Sch} (h:SchOk s) {i:Nat} (hi:i < s.cols.length) (h2:(colAt s i).kind = 2):(leavesL s i).length≤60:=by
 obtain ⟨d1,d2⟩:=h.cdl hi h2
 obtain ⟨_,d5,d6⟩:=lstE_par d2
 unfold leavesL atL
 rw [if_neg (by rw [d2];simp),List.length_map]
 have:=List.length_filter_le (fun i=>(dep (cdlAt s i).codes i:Int) == lvlsL (cdlAt s i) - 1) (List.range (cdlAt s i).codes.length)
 refine Nat.le_trans (List.length_filter_le _ _) ?_
 rw [List.length_range];exact d6
theorem c_ref02_divides (s:Sch) (hok:SchOk s) (i o lev:Nat) (hi:i < s.cols.length) (h0:0 < i) (hl:(lev:Int)≤finI s i):Spc Tryz.prog F_ref02_divides [schT s,vI i,vI o,vI lev] [] (vB (divB s i o lev)) []:=by
 have hat:colAt s i = s.cols[i]:=by rw [colAt,getD_get hi]
 obtain ⟨hE,c1,c2,hfin⟩:=finI_ok (s:=s) (c:=i) (by omega)
 rw [Int.toNat_natCast,hat] at hfin
 have hwd:=fun e l=>hok.wid hi (by omega) e (lev:=l)
 have hlv:=c_ref02_Leaves s hok i hi
 have hll:=leaves_len hok hi
 rw [hat] at hwd hlv hll
 have hE2:divB s i o lev = if lev = 0∨lev≤o then true
  else if s.cols[i].kind = 2 then pairA (leavesL s i).length (divP s i (leavesL s i) o lev)
  else if o = 0 then !s.cols[i].opt && decide ((floorI s.cols[i].low (widthI s.cols[i] lev) + 1) * widthI s.cols[i] lev > s.cols[i].high)
  else divM s.cols[i].high (widthI s.cols[i] lev) (widthI s.cols[i] o) 2 ((floorI s.cols[i].low (widthI s.cols[i] lev) + 1) * widthI s.cols[i] lev):=by rw [divB,hat]
 rw [hE2]
 refine spec_of_ir fn_ref02_divides mixm (by simp) fun e _ hst=>W_start ?_
 unfold ir_ref02_divides
 simp only [tZ,↓un_u,simprocAttr,Int.toNat_natCast,getD_mapT hi]
 generalize s.cols[i] = x at hwd hlv hfin hll ⊢
 simp only [tZ,↓un_u,simprocAttr,tD,beq_iff_eq,beq_eq_false_iff_ne]
 refine ⟨by omega,fun h=>?_,fun h=>?_⟩
 ·rw [if_pos (by omega)]
  exact .oA [] []
 rw [if_neg (by omega)]
 refine ⟨fun h2=>?_,fun h2=>?_⟩
 ·rw [if_pos h2]
  refine C1.im (hlv h2) (by rfl) (by rfl) ?_
  generalize leavesL s i = L at hll ⊢
  have hll:=hll h2
  refine sW ?_
  refine W_loopF mixm (α:=Nat) [11] (fun j=>j≤L.length∧pairA j (divP s i L o lev) = true) (fun j=>[(11,vI j)]) (fun j=>[(4096,.arr 2 [schT s] false),(8212,.arr 7 [colT x] false)]) (fun j=>L.length - j) 0 ⟨by omega,rfl⟩ ?_ fun j hj=>?_
  ·exact .oA [(4096,some 4096),(8212,some 8212)] []
  obtain ⟨j1,j2⟩:=hj
  refine sD ?_
  refine ⟨fun h3=>?_,fun h3=>?_⟩
  ·have hj2:j < L.length:=by omega
   have hwj:=i64_succ (i:=j) (by omega)
   have hgj:L.getD j 0 = L[j]:=getD_get hj2
   refine W_loopF mixm (α:=Nat) [12] (fun k=>k≤j∧(List.range k).all (divP s i L o lev j) = true) (fun k=>[(12,vI k)]) (fun k=>[(4096,.arr 2 [schT s] false),(8212,.arr 7 [colT x] false)]) (fun k=>j - k) 0 ⟨by omega,rfl⟩ ?_ fun k hk=>?_
   ·exact .oA [(4096,some 4096),(8212,some 8212)] []
   obtain ⟨k1,k2⟩:=hk
   refine sD ?_
   refine ⟨fun h4=>?_,fun h4=>?_⟩
   ·have hk2:k < L.length:=by omega
    have hwk:=i64_succ (i:=k) (by omega)
    have hgk:L.getD k 0 = L[k]:=getD_get hk2
    have hP:divP s i L o lev j k = !(!(coarseI s i lev L[j] == coarseI s i lev L[k]) && (coarseI s i o L[j] == coarseI s i o L[k])):=by rw [divP,hgj,hgk]
    have hC1:=c_ref02_Coarse s hok.sm i o L[j]
    have hC2:=c_ref02_Coarse s hok.sm i o L[k]
    simp only [tZ,↓un_u,simprocAttr,Int.toNat_natCast,getD_mapT hj2,getD_mapT hk2]
    refine ⟨by omega,?_⟩
    refine C1.im (c_ref02_Coarse s hok.sm i lev L[j]) (by rfl) (by rfl) ?_
    simp only [tZ,↓un_u,simprocAttr,Int.toNat_natCast,getD_mapT hj2,getD_mapT hk2]
    refine ⟨by omega,?_⟩
    refine C1.im (c_ref02_Coarse s hok.sm i lev L[k]) (by rfl) (by rfl) ?_
    simp only [tZ,↓un_u,simprocAttr,Int.toNat_natCast,getD_mapT hj2,getD_mapT hk2]
    refine ⟨fun _=>by omega,?_⟩
    refine C2.im (fun _=>hC1) (fun _=>rfl) (by rfl) ?_
    simp only [tZ,↓un_u,simprocAttr,Int.toNat_natCast,getD_mapT hj2,getD_mapT hk2]
    refine ⟨fun _=>by omega,?_⟩
    refine C2.im (fun _=>hC2) (fun _=>rfl) (by rfl) ?_
    simp only [tZ,↓un_u,simprocAttr,hwk,tD,bne_iff_ne,bne_eq_false_iff_eq,beq_iff_eq,beq_eq_false_iff_ne]
    refine ⟨by kernel_rfl,fun h5=>?_,fun h5=>?_⟩
    ·rw [pairA_no hj2 (show k < j by omega) (by rw [hP];grind)]
     exact .oA [] []
    ·refine ⟨k + 1,⟨by omega,?_⟩,by omega,?_⟩
     ·rw [all_succ,k2,hP];grind
     ·exact .oA [(4096,some 4096),(8212,some 8212)] []
   ·have hkj:k = j:=by omega
    subst hkj
    simp only [tZ,↓un_u,simprocAttr,hwj]
    refine ⟨k + 1,⟨by omega,?_⟩,by omega,?_⟩
    ·rw [pairA_succ,j2,k2];rfl
    ·exact .oA [(4096,some 4096),(8212,some 8212)] []
  ·have hjl:j = L.length:=by omega
   subst hjl
   rw [j2]
   exact .oA [] []
 rw [if_neg h2] at hfin
 rw [if_neg h2]
 obtain ⟨w1,w2,w3,w4,w5,w6,w7,_⟩:=hwd h2 lev (by omega)
 generalize hW:widthI x lev = w at w1 w2 ⊢
 have hfm:=floor_mul (v:=x.low) (w:=w) (by omega)
 have hfl:=floor_le (v:=x.low) (w:=w) (by omega) (by omega)
 have hw1:IntKind.i64.wrap (floorI x.low w + 1) = floorI x.low w + 1:=IntWalk.i64_in _ (by omega)
 have hw2:IntKind.i64.wrap ((floorI x.low w + 1) * w) = (floorI x.low w + 1) * w:=IntWalk.i64_in _ (by rw [Int.add_mul];omega)
 have hF : -3000000≤(floorI x.low w + 1) * w∧(floorI x.low w + 1) * w≤3000000:=by rw [Int.add_mul];omega
 refine C1.im (c_ref02_Width x lev (by omega) (by omega)) (by rfl) (by rfl) ?_
 rw [hW]
 refine sW ?_
 refine C1.im (c_ref02_Floor x.low w (by omega) (by omega)) (by rfl) (by rfl) ?_
 simp only [tZ,↓un_u,simprocAttr,hw1,hw2]
 generalize (floorI x.low w + 1) * w = F at hF ⊢
 simp only [tZ,↓un_u,simprocAttr,beq_iff_eq,beq_eq_false_iff_ne]
 refine ⟨fun h3=>?_,fun h3=>?_⟩
 ·rw [if_pos (by omega)]
  exact .oA [] []
 rw [if_neg (by omega)]
 obtain ⟨v1,v2,_⟩:=hwd h2 o (by omega)
 have hwo:=c_ref02_Width x o (by omega) (by omega)
 generalize widthI x o = wo at v1 v2 hwo ⊢
 refine W_loopF mixm (α:=Nat×Int) [14,15] (fun y=>y.1≤2∧divM x.high w wo 2 F = divM x.high w wo (2 - y.1) y.2∧-3000000 - 1000000 * y.1≤y.2∧y.2≤3000000 + 1000000 * y.1) (fun y=>[(14,vI y.2),(15,vI y.1)]) (fun y=>[(4096,.arr 2 [schT s] false),(8212,.arr 7 [colT x] false)]) (fun y=>2 - y.1) (0,F) ⟨by simp,rfl,by simp;omega,by simp;omega⟩ ?_ fun y hy=>?_
 ·exact .oA [(4096,some 4096),(8212,some 8212)] []
 obtain ⟨n,f⟩:=y
 obtain ⟨y1,y2,y3,y4⟩:=hy
 dsimp only at y1 y2 y3 y4
 have hwn:=i64_succ (i:=n) (by omega)
 have hwf:IntKind.i64.wrap (f + w) = f + w:=IntWalk.i64_in _ (by omega)
 rw [y2]
 refine sD ?_
 refine ⟨fun h4=>?_,fun h4=>?_⟩
 ·obtain ⟨m,hm⟩:∃ m,2 - n = m + 1:=⟨1 - n,by omega⟩
  refine C1.im hwo (by rfl) (by rfl) ?_
  simp only [tZ,↓un_u,simprocAttr,bne_iff_ne,bne_eq_false_iff_eq]
  rw [hm,divM,if_neg (by omega)]
  refine ⟨by omega,fun h5=>?_,fun h5=>?_⟩
  ·rw [if_pos h5]
   exact .oA [] []
  ·simp only [tZ,↓un_u,simprocAttr,hwn,hwf]
   refine ⟨(n + 1,f + w),⟨by dsimp only;omega,?_,by dsimp only;omega,by dsimp only;omega⟩,by dsimp only;omega,?_⟩
   ·dsimp only
    rw [if_neg (by rw [h5];simp),show 2 - (n + 1) = m by omega]
   ·exact .oA [(4096,some 4096),(8212,some 8212)] []
 ·have:divM x.high w wo (2 - n) f = true:=by
   by_cases e:n = 2
   ·subst e;rfl
   ·obtain ⟨m,hm⟩:∃ m,2 - n = m + 1:=⟨1 - n,by omega⟩
    rw [hm,divM,if_pos (by omega)]
  rw [this]
  exact .oA [] []
theorem div_self (s:Sch) (i lev:Nat):divB s i lev lev = true:=by unfold divB;rw [if_pos (by omega)]
theorem finI_le {s:Sch} {c:Int} (h:schE s = 0):finI s c≤59:=by
 by_cases h0:0≤finI s c
 ·obtain ⟨_,h1,h2,h3⟩:=finI_ok h0
  rw [h3]
  split
  ·have:=lvls_le (l:=cdlAt s c.toNat);omega
  ·rename_i h4
   have hok:=schE_ok h
   by_cases e:(colAt s c.toNat).widths.length = 0
   ·omega
   ·have:=hok.wid (i:=c.toNat) (by omega) (by omega) h4 (lev:=1) (by omega)
    omega
 ·omega
theorem c_ref02_Least (s:Sch) (hs:SchSm s) (c lev:Int):Spc Tryz.prog F_ref02_Least [schT s,vI c,vI lev] [] (vI (leastI s c lev)) []:=by
 refine spec_of_ir fn_ref02_Least mixm (by simp) fun e _ hst=>W_start ?_
 unfold ir_ref02_Least
 refine sW ?_
 refine C1.im (c_ref02_Finest s hs c) (by rfl) (by rfl) ?_
 refine sW ?_
 refine C1.im (c_ref02_in lev 0 (finI s c)) (by rfl) (by rfl) ?_
 simp only [tZ,↓un_u,simprocAttr,Bool.not_eq_true',Bool.not_eq_false']
 refine ⟨fun h=>?_,fun h=>?_⟩
 ·rw [leastI,if_pos h]
  exact .oA [] []
 rw [leastI,if_neg (by rw [h];simp)]
 rw [inB_ok] at h
 obtain ⟨hE,c1,c2,hfin⟩:=finI_ok (s:=s) (c:=c) (by omega)
 have hfl:=finI_le (c:=c) hE
 have hok:=schE_ok hE
 obtain ⟨i,rfl⟩:=Int.eq_ofNat_of_zero_le (show 0≤c by omega)
 obtain ⟨v,rfl⟩:=Int.eq_ofNat_of_zero_le h.1
 simp only [Int.toNat_natCast]
 refine W_loopF mixm (α:=Nat) [7] (fun n=>n≤v∧firstN (fun n=>divB s i n v) 64 0 = firstN (fun n=>divB s i n v) (64 - n) n) (fun n=>[(7,vI n)]) (fun n=>[(4096,.arr 2 [schT s] false)]) (fun n=>v - n) 0 ⟨by omega,rfl⟩ ?_ fun n hn=>?_
 ·exact .oA [(4096,some 4096)] []
 obtain ⟨n1,n2⟩:=hn
 have hwn:=i64_succ (i:=n) (by omega)
 refine sW ?_
 refine C1.im (c_ref02_divides s hok i n v (by omega) (by omega) h.2) (by rfl) (by rfl) ?_
 simp only [tZ,↓un_u,simprocAttr,Bool.not_eq_true',Bool.not_eq_false',hwn]
 have e:64 - n = (63 - n) + 1:=by omega
 rw [n2,e,firstN]
 refine ⟨fun h3=>?_,fun h3=>?_⟩
 ·have hnv:n≠v:=fun k=>by rw [k,div_self] at h3;cases h3
  refine ⟨n + 1,⟨by omega,?_⟩,by omega,?_⟩
  ·rw [if_neg (by rw [h3];simp),show 63 - n = 64 - (n + 1) by omega]
  ·exact .oA [(4096,some 4096)] []
 ·rw [if_pos h3]
  exact .oA [] []
end Go.Proofs
set_option linter.unusedSimpArgs false
set_option linter.unusedVariables false
namespace Go.Proofs
open Go Go.TL
abbrev cnT (c:Cnd):T:=.agg [vI c.op,vI c.col,vI c.code,vI c.lo,vI c.hi,vCs c.kids]
theorem cndT_all (c:Cnd):(cndT c).cells.length = 6∧imL (cndT c).cells = true:=by rw [cndT_eq];exact ⟨rfl,rfl⟩
theorem getD_out {α:Type} {f:α→T} {l:List α} {i:Nat} (h:l.length≤i):(l.map f).getD i .junk = .junk:=by simp [List.getD,h]
theorem drop_at {α:Type} {l:List α} {i:Nat} (h:i < l.length):l.drop i = l[i] :: l.drop (i + 1):=List.drop_eq_getElem_cons h
theorem c_ref05_count:∀ (c:Cnd) (m:Int),1≤m→m≤1000→Spc Tryz.prog F_ref05_count [cnT c,vI m] [] (vI (cntC c m)) []:=by
 refine Cnd.ind' fun c ih m hm hm2=>?_
 rw [cntC_eq]
 refine spec_of_ir fn_ref05_count mixm (by simp) fun e _ hst=>W_start ?_
 unfold ir_ref05_count
 refine sW ?_
 refine W_loopF mixm (α:=Nat×Int) [5,6] (fun y=>y.1≤c.kids.length∧cntCs c.kids m 1 = cntCs (c.kids.drop y.1) m y.2∧y.2≤m∧y.1 + 1≤y.2) (fun y=>[(5,vI y.2),(6,vI y.1)]) (fun y=>[(4096,.arr 6 [cnT c] false)]) (fun y=>c.kids.length - y.1) (0,1) ⟨by simp,rfl,hm,by simp⟩ ?_ fun y hy=>?_
 ·exact .oA [(4096,some 4096)] []
 obtain ⟨i,n⟩:=y
 obtain ⟨y1,y2,y3,y4⟩:=hy
 dsimp only at y1 y2 y3 y4
 rw [y2]
 refine sD ?_
 refine ⟨fun h=>?_,fun h=>?_⟩
 ·have hi:i < c.kids.length:=by omega
  have hwi:=i64_succ (i:=i) (by omega)
  have hw:IntKind.i64.wrap (m - n) = m - n:=IntWalk.i64_in _ (by omega)
  have hc:=cnt_le c.kids[i] (m - n) (by omega)
  have hw2:IntKind.i64.wrap (n + cntC c.kids[i] (m - n)) = n + cntC c.kids[i] (m - n):=IntWalk.i64_in _ (by omega)
  simp only [tZ,↓un_u,simprocAttr,Int.toNat_natCast,getD_mapT hi,cndT_eq,hw]
  refine ⟨by omega,?_⟩
  refine C1.im (ih _ (List.getElem_mem hi) (m - n) (by omega) (by omega)) (by rfl) (by rfl) ?_
  simp only [tZ,↓un_u,simprocAttr,hw2,hwi]
  refine ⟨(i + 1,n + cntC c.kids[i] (m - n)),⟨by dsimp only;omega,?_,by dsimp only;omega,by dsimp only;omega⟩,by dsimp only;omega,?_⟩
  ·dsimp only
   rw [drop_at hi,cntCs,if_pos (by omega)]
  ·exact .oA [(4096,some 4096)] []
 ·have:cntCs (c.kids.drop i) m n = n:=by
   by_cases hi:i < c.kids.length
   ·rw [drop_at hi,cntCs,if_neg (by omega)]
   ·rw [List.drop_of_length_le (by omega),cntCs]
  rw [this]
  exact .oA [] []
theorem depCs_snoc:∀ (l:List Cnd) (k:Cnd),depCs (l ++ [k]) = max (depCs l) (depC k)
 | [],k=>by simp [depCs]
 | x :: r,k=>by rw [List.cons_append,depCs,depCs_snoc r k,depCs];omega
theorem depCs_take:∀ (l:List Cnd) (i:Nat),depCs (l.take i)≤depCs l
 | [],i=>by simp
 | x :: r,0=>by simp [depCs]
 | x :: r,i + 1=>by rw [List.take_succ_cons,depCs,depCs];have:=depCs_take r i;omega
theorem cnt_kids:∀ {l:List Cnd} {m n:Int},n≤m→cntCs l m n < m→n + l.length≤cntCs l m n∧∀ k∈l,∃ m',1≤m'∧m'≤m - n∧cntC k m' < m'
 | [],m,n,_,h=>by rw [cntCs];simp
 | x :: r,m,n,h1,h=>by
   rw [cntCs] at h ⊢
   split at h
   ·rename_i h2
    rw [if_pos h2]
    have h3:=cnt_le x (m - n) (by omega)
    obtain ⟨h4,h5⟩:=cnt_kids (l:=r) (by omega) h
    refine ⟨by rw [List.length_cons];omega,fun k hk=>?_⟩
    rcases List.mem_cons.1 hk with e | hk
    ·subst e
     exact ⟨m - n,by omega,by omega,by omega⟩
    ·obtain ⟨m',a,b,c⟩:=h5 k hk
     exact ⟨m',a,by omega,c⟩
   ·omega
theorem c_ref05_depth:∀ (c:Cnd) (m:Int),1≤m→m≤1000→cntC c m < m→Spc Tryz.prog F_ref05_depth [cnT c] [] (vI (depC c)) []:=by
 refine Cnd.ind' fun c ih m hm hm2 hc=>?_
 have hd:=dep_cnt c m hm hc
 rw [cntC_eq] at hc hd
 obtain ⟨hk1,hk2⟩:=cnt_kids (by omega) hc
 rw [depC_eq] at hd ⊢
 refine spec_of_ir fn_ref05_depth mixm (by simp) fun e _ hst=>W_start ?_
 unfold ir_ref05_depth
 refine sW ?_
 refine W_loopF mixm (α:=Nat) [3,4] (fun i=>i≤c.kids.length) (fun i=>[(3,vI (depCs (c.kids.take i))),(4,vI i)]) (fun i=>[(4096,.arr 6 [cnT c] false)]) (fun i=>c.kids.length - i) 0 (by omega) ?_ fun i hi=>?_
 ·refine .of [(4096,some 4096)] [] rfl (by first | rfl | (rw [hst];rfl)) ?_ ?_
  all_goals (try simp only [tL,simprocAttr,List.map_append,List.map_cons,List.map_nil,List.cons_append,List.nil_append,List.take_zero,depCs])
  all_goals (try (repeat' (first | exact ltXs_nil | (apply ltXs_map;intro _;exact ⟨rfl,rfl⟩) | (apply imXs_map;intro _;exact ⟨rfl,rfl⟩) | with_reducible apply imXs_append | with_reducible refine imXs_cons ⟨rfl,rfl⟩ ?_ | exact imXs_nil | with_reducible apply ltXs_append | with_reducible refine ltXs_cons ⟨rfl,rfl,?_⟩ ?_ | with_reducible apply And.intro | exact ltCs_im rfl | exact ltCs_im (by assumption) | (refine ⟨⟨?_,rfl,?_,rfl,?_⟩,trivial⟩ <;> first | (simp;done) | (apply imXs_map;intro _;exact ⟨rfl,rfl⟩)) | trivial | rfl | (rw [i64_succ (by omega)]) | omega)))
 have hdt:=depCs_take c.kids i
 refine sD ?_
 refine ⟨fun h=>?_,fun h=>?_⟩
 ·have hi2:i < c.kids.length:=by omega
  have hwi:=i64_succ (i:=i) (by omega)
  have hs:depCs (c.kids.take (i + 1)) = max (depCs (c.kids.take i)) (depC c.kids[i]):=by rw [take_snoc hi2,depCs_snoc]
  obtain ⟨m',a1,a2,a3⟩:=hk2 _ (List.getElem_mem hi2)
  simp only [tZ,↓un_u,simprocAttr,Int.toNat_natCast,getD_mapT hi2,cndT_eq]
  refine ⟨by omega,?_⟩
  refine C1.im (ih _ (List.getElem_mem hi2) m' a1 (by omega) a3) (by rfl) (by rfl) ?_
  have hmx:maxI (depCs (c.kids.take i):Int) (depC c.kids[i]) = (depCs (c.kids.take (i + 1)):Int):=by rw [hs];unfold maxI;omega
  simp only [tZ,↓un_u,simprocAttr,hwi,hmx]
  refine ⟨i + 1,by omega,by omega,?_⟩
  exact .oA [(4096,some 4096)] []
 ·have hil:i = c.kids.length:=by omega
  subst hil
  rw [List.take_length] at hdt ⊢
  have hw:=i64_succ (i:=depCs c.kids) (by omega)
  simp only [tZ,↓un_u,simprocAttr,hw]
  exact .oA [] []
theorem c_ref05_is (s:Sch) (col kind:Int):Spc Tryz.prog F_ref05_is [schT s,vI col,vI kind] [] (vB (isB s col kind)) []:=by
 by_cases h:0≤col∧col < s.cols.length
 ·obtain ⟨i,rfl⟩:=Int.eq_ofNat_of_zero_le h.1
  have hi:i < s.cols.length:=by omega
  have e1:decide ((i:Int)≥0) = true:=decide_eq_true (by omega)
  have e2:decide ((i:Int) < s.cols.length) = true:=decide_eq_true (by omega)
  have e3:isB s i kind = (s.cols[i].kind == kind):=by
   rw [isB,Int.toNat_natCast,colAt,getD_get hi,decide_eq_true h.1,decide_eq_true h.2];rfl
  refine spec_of_ir fn_ref05_is mixm (by simp) fun e _ hst=>W_start ?_
  unfold ir_ref05_is
  simp only [tZ,↓un_u,simprocAttr,e1,e2,Int.toNat_natCast,getD_mapT hi]
  rw [e3]
  refine ⟨by omega,?_⟩
  exact .oA [] []
 ·have e1:(decide (col≥0) && decide (col < (s.cols.length:Int))) = false:=by
   rw [Bool.and_eq_false_iff,decide_eq_false_iff_not,decide_eq_false_iff_not];omega
  have e3:isB s col kind = false:=by
   unfold isB
   rw [show (decide (0≤col) && decide (col < (s.cols.length:Int))) = false from e1];rfl
  rcases Nat.lt_or_ge col.toNat s.cols.length with hk | hk
  ·refine spec_of_ir fn_ref05_is mixm (by simp) fun e _ hst=>W_start ?_
   unfold ir_ref05_is
   simp only [tZ,↓un_u,simprocAttr,e1,getD_mapT hk]
   rw [e3]
   exact .oA [] []
  ·have hj:(s.cols.map colT).getD col.toNat .junk = .junk:=getD_out hk
   refine spec_of_ir fn_ref05_is mixm (by simp) fun e _ hst=>W_start ?_
   unfold ir_ref05_is
   simp only [tZ,↓un_u,simprocAttr,e1,hj,List.drop_succ_cons,List.drop_nil]
   rw [e3]
   exact .oA [] []
end Go.Proofs
set_option linter.unusedSimpArgs false
set_option linter.unusedVariables false
namespace Go.Proofs
open Go Go.TL
set_option maxRecDepth 4000
set_option maxHeartbeats 8000000
theorem nodEs_stays:∀ {s:Sch} {l:List Cnd} {i:Nat} (h:i < l.length),nodEs s (l.take i) = 0→nodE s l[i]≠0→nodEs s l = nodE s l[i]
 | s,x :: r,0,h,_,h2=>by
   have h2:nodE s x≠0:=h2
   rw [nodEs,if_pos h2];rfl
 | s,x :: r,i + 1,h,h1,h2=>by
   rw [List.take_succ_cons,nodEs] at h1
   split at h1
   ·rename_i h3;exact absurd h1 h3
   ·rename_i h3
    rw [nodEs,if_neg h3]
    exact nodEs_stays (l:=r) (i:=i) (by simpa using h) h1 h2
theorem nodEs_snoc:∀ {s:Sch} {l:List Cnd} {k:Cnd},nodEs s l = 0→nodE s k = 0→nodEs s (l ++ [k]) = 0
 | s,[],k,_,h=>by simp [nodEs,h]
 | s,x :: r,k,h1,h2=>by
   rw [nodEs] at h1
   split at h1
   ·rename_i h3;exact absurd h1 h3
   ·rename_i h3
    rw [List.cons_append,nodEs,if_neg h3]
    exact nodEs_snoc h1 h2
theorem SchOk.list0 {s:Sch} (h:SchOk s) {i:Nat} (hi:i < s.cols.length) (hk:(colAt s i).kind≠2):(colAt s i).list = 0:=by
 have:=h.cs i hi
 unfold colE at this
 grind
theorem c_ref05_node (s:Sch) (hok:SchOk s) (hL:0 < s.lists.length):∀ (c:Cnd),Spc Tryz.prog F_ref05_node [schT s,cnT c] [] (vI (nodE s c)) []:=by
 refine Cnd.ind' fun c ih=>?_
 have hN0:=nodE_eq s c
 have hn0:=hok.nl
 have hn1:=hok.nc
 generalize nodE s c = N at hN0 ⊢
 obtain ⟨op,col,code,lo,hi,ks⟩:=c
 simp only [Cnd.op,Cnd.col,Cnd.code,Cnd.lo,Cnd.hi,Cnd.kids] at ih hN0 ⊢
 have hn:ndE s (.mk op col code lo hi ks) = if op < 1∨7 < op then 4
 else if ks.length≠arC op∨(op≠2∧op≠3∧op≠4∧col≠0)∨(op≠2∧code≠0)∨(op≠3∧(lo≠0∨hi≠0)) then 11
 else if (op = 2∧isB s col 2 = false)∨(op = 3∧isB s col 3 = false)∨(op = 4∧(isB s col 3 = false∨(colAt s col.toNat).opt = false)) then 7
 else if op = 2∧(code < 0∨code≥(cdlAt s col.toNat).codes.length) then 6
 else if op = 3∧(lo < -1000000∨hi > 1000000∨lo > hi) then 2 else 0:=rfl
 have hbad:∀ v,v≠0→ndE s (.mk op col code lo hi ks) = v→N = v:=fun v h1 h2=>by rw [hN0,h2,if_pos h1]
 have hgood:ndE s (.mk op col code lo hi ks) = 0→N = nodEs s ks:=fun h2=>by rw [hN0,h2,if_neg (by simp)]
 clear hN0
 generalize ndE s (.mk op col code lo hi ks) = E at hn hbad hgood
 have h0p:0 < s.cols.length:=by omega
 have hg0:(s.cols.map colT).getD 0 .junk = colT s.cols[0]:=getD_mapT (i:=0) h0p
 have hl0:s.cols[0].list.toNat = 0:=by
  have h1:=hok.c0
  have:=hok.list0 (i:=0) h0p (by rw [h1];decide)
  rw [colAt,getD_get h0p] at this
  rw [this];rfl
 have hgl:(s.lists.map cdlT).getD 0 .junk = cdlT s.lists[0]:=getD_mapT hL
 have hop:op = 1∨op = 2∨op = 3∨op = 4∨op = 5∨op = 6∨op = 7∨op < 1∨7 < op:=by omega
 rcases hop with e | e | e | e | e | e | e | e
 focus
  have q1:(op == 1) = true:=by rw [e];rfl
  have q2:(op == 2) = false:=by rw [e];rfl
  have q3:(op == 3) = false:=by rw [e];rfl
  have q4:(op == 4) = false:=by rw [e];rfl
  have q5:(op == 5) = false:=by rw [e];rfl
  have q6:(op == 6) = false:=by rw [e];rfl
  have q7:(op == 7) = false:=by rw [e];rfl
  simp [arC,-List.length_eq_zero_iff,e] at hn
  refine spec_of_ir fn_ref05_node mixm (by simp) fun e _ hst=>W_start ?_
  unfold ir_ref05_node
  simp only [tZ,↓un_u,simprocAttr,Cnd.op,Cnd.col,Cnd.code,Cnd.lo,Cnd.hi,Cnd.kids,q1,q2,q3,q4,q5,q6,q7]
  refine ⟨by kernel_rfl,fun h=>?_,fun h=>?_⟩
  ·rw [hbad 11 (by decide) (by rw [hn,if_pos];grind)]
   exact .oA [] []
  have hks:ks.length≤2:=by grind
  rw [hgood (by rw [hn,if_neg];grind)]
  have hc0:col.toNat = 0:=by grind
  refine C2.im (fun _=>c_ref05_is s col 2) (fun _=>rfl) (by rfl) ?_
  simp only [tZ,↓un_u,simprocAttr,Cnd.op,Cnd.col,Cnd.code,Cnd.lo,Cnd.hi,Cnd.kids,q1,q2,q3,q4,q5,q6,q7]
  refine C2.im (fun _=>c_ref05_is s col 3) (fun _=>rfl) (by rfl) ?_
  simp only [tZ,↓un_u,simprocAttr,Cnd.op,Cnd.col,Cnd.code,Cnd.lo,Cnd.hi,Cnd.kids,q1,q2,q3,q4,q5,q6,q7]
  refine C2.im (fun _=>c_ref05_is s col 3) (fun _=>rfl) (by rfl) ?_
  simp only [tZ,↓un_u,simprocAttr,Cnd.op,Cnd.col,Cnd.code,Cnd.lo,Cnd.hi,Cnd.kids,q1,q2,q3,q4,q5,q6,q7,hc0,hg0,hl0,hgl]
  refine ⟨by kernel_rfl,?_⟩
 rotate_left
 focus
  have q1:(op == 1) = false:=by rw [e];rfl
  have q2:(op == 2) = true:=by rw [e];rfl
  have q3:(op == 3) = false:=by rw [e];rfl
  have q4:(op == 4) = false:=by rw [e];rfl
  have q5:(op == 5) = false:=by rw [e];rfl
  have q6:(op == 6) = false:=by rw [e];rfl
  have q7:(op == 7) = false:=by rw [e];rfl
  simp [arC,-List.length_eq_zero_iff,e] at hn
  refine spec_of_ir fn_ref05_node mixm (by simp) fun e _ hst=>W_start ?_
  unfold ir_ref05_node
  simp only [tZ,↓un_u,simprocAttr,Cnd.op,Cnd.col,Cnd.code,Cnd.lo,Cnd.hi,Cnd.kids,q1,q2,q3,q4,q5,q6,q7]
  refine ⟨by kernel_rfl,?_⟩
  refine ⟨by kernel_rfl,?_⟩
  refine ⟨fun h=>?_,fun h=>?_⟩
  ·rw [hbad 11 (by decide) (by rw [hn,if_pos];grind)]
   exact .oA [] []
  have hks:ks.length≤2:=by grind
  rw [if_neg (by grind)] at hn
  refine C2.im (fun _=>c_ref05_is s col 2) (fun _=>rfl) (by rfl) ?_
  simp only [tZ,↓un_u,simprocAttr,Cnd.op,Cnd.col,Cnd.code,Cnd.lo,Cnd.hi,Cnd.kids,q1,q2,q3,q4,q5,q6,q7]
  refine C2.im (fun _=>c_ref05_is s col 3) (fun _=>rfl) (by rfl) ?_
  simp only [tZ,↓un_u,simprocAttr,Cnd.op,Cnd.col,Cnd.code,Cnd.lo,Cnd.hi,Cnd.kids,q1,q2,q3,q4,q5,q6,q7]
  refine C2.im (fun _=>c_ref05_is s col 3) (fun _=>rfl) (by rfl) ?_
  by_cases h2:isB s col 2 = false
  ·rw [hbad 7 (by decide) (by rw [hn,if_pos (by grind)])]
   rcases Nat.lt_or_ge col.toNat s.cols.length with hk | hk
   ·simp only [tZ,↓un_u,simprocAttr,Cnd.op,Cnd.col,Cnd.code,Cnd.lo,Cnd.hi,Cnd.kids,q1,q2,q3,q4,q5,q6,q7,h2,getD_mapT hk]
    exact .oA [] []
   ·simp only [tZ,↓un_u,simprocAttr,Cnd.op,Cnd.col,Cnd.code,Cnd.lo,Cnd.hi,Cnd.kids,q1,q2,q3,q4,q5,q6,q7,h2,getD_out hk,List.drop_succ_cons,List.drop_nil]
    exact .oA [] []
  rw [Bool.not_eq_false] at h2
  obtain ⟨b1,b2,b3⟩:=isB_ok.1 h2
  obtain ⟨i,hci⟩:∃ i:Nat,col.toNat = i:=⟨_,rfl⟩
  rw [hci] at b3
  try rw [hci] at hn
  have hil:i < s.cols.length:=by omega
  have hat:colAt s i = s.cols[i]:=by rw [colAt,getD_get hil]
  have hcd:=hok.cdl hil b3
  have hcd2:=(colE_kind (hok.cs i hil)).2.2.2.1 b3
  have hcl:cdlAt s i = s.lists.getD s.cols[i].list.toNat default:=by rw [cdlAt,hat]
  rw [hat] at hcd hcd2
  rw [hcl,getD_get hcd.1] at hcd
  have hn:E = if code < 0∨code≥s.lists[s.cols[i].list.toNat].codes.length then 6 else 0:=by
   rw [hn,if_neg (by rw [h2];simp)]
   simp [hil,hcd.1]
  simp only [tZ,↓un_u,simprocAttr,Cnd.op,Cnd.col,Cnd.code,Cnd.lo,Cnd.hi,Cnd.kids,q1,q2,q3,q4,q5,q6,q7,h2,hci,getD_mapT hil,getD_mapT hcd.1,tD]
  refine ⟨fun _=>by omega,fun _=>by omega,by kernel_rfl,fun h3=>?_,fun h3=>?_⟩
  ·rw [hbad 6 (by decide) (by rw [hn,if_pos (by omega)])]
   exact .oA [] []
  rw [hgood (by rw [hn,if_neg (by omega)])]
 rotate_left
 focus
  have q1:(op == 1) = false:=by rw [e];rfl
  have q2:(op == 2) = false:=by rw [e];rfl
  have q3:(op == 3) = true:=by rw [e];rfl
  have q4:(op == 4) = false:=by rw [e];rfl
  have q5:(op == 5) = false:=by rw [e];rfl
  have q6:(op == 6) = false:=by rw [e];rfl
  have q7:(op == 7) = false:=by rw [e];rfl
  simp [arC,-List.length_eq_zero_iff,e] at hn
  refine spec_of_ir fn_ref05_node mixm (by simp) fun e _ hst=>W_start ?_
  unfold ir_ref05_node
  simp only [tZ,↓un_u,simprocAttr,Cnd.op,Cnd.col,Cnd.code,Cnd.lo,Cnd.hi,Cnd.kids,q1,q2,q3,q4,q5,q6,q7]
  refine ⟨by kernel_rfl,?_⟩
  refine ⟨by kernel_rfl,?_⟩
  refine ⟨fun h=>?_,fun h=>?_⟩
  ·rw [hbad 11 (by decide) (by rw [hn,if_pos];grind)]
   exact .oA [] []
  have hks:ks.length≤2:=by grind
  rw [if_neg (by grind)] at hn
  refine C2.im (fun _=>c_ref05_is s col 2) (fun _=>rfl) (by rfl) ?_
  simp only [tZ,↓un_u,simprocAttr,Cnd.op,Cnd.col,Cnd.code,Cnd.lo,Cnd.hi,Cnd.kids,q1,q2,q3,q4,q5,q6,q7]
  refine C2.im (fun _=>c_ref05_is s col 3) (fun _=>rfl) (by rfl) ?_
  simp only [tZ,↓un_u,simprocAttr,Cnd.op,Cnd.col,Cnd.code,Cnd.lo,Cnd.hi,Cnd.kids,q1,q2,q3,q4,q5,q6,q7]
  refine C2.im (fun _=>c_ref05_is s col 3) (fun _=>rfl) (by rfl) ?_
  by_cases h2:isB s col 3 = false
  ·rw [hbad 7 (by decide) (by rw [hn,if_pos (by grind)])]
   rcases Nat.lt_or_ge col.toNat s.cols.length with hk | hk
   ·simp only [tZ,↓un_u,simprocAttr,Cnd.op,Cnd.col,Cnd.code,Cnd.lo,Cnd.hi,Cnd.kids,q1,q2,q3,q4,q5,q6,q7,h2,getD_mapT hk]
    exact .oA [] []
   ·simp only [tZ,↓un_u,simprocAttr,Cnd.op,Cnd.col,Cnd.code,Cnd.lo,Cnd.hi,Cnd.kids,q1,q2,q3,q4,q5,q6,q7,h2,getD_out hk,List.drop_succ_cons,List.drop_nil]
    exact .oA [] []
  rw [Bool.not_eq_false] at h2
  obtain ⟨b1,b2,b3⟩:=isB_ok.1 h2
  obtain ⟨i,hci⟩:∃ i:Nat,col.toNat = i:=⟨_,rfl⟩
  rw [hci] at b3
  try rw [hci] at hn
  have hil:i < s.cols.length:=by omega
  have hat:colAt s i = s.cols[i]:=by rw [colAt,getD_get hil]
  have hli:s.cols[i].list.toNat = 0:=by
   have:=hok.list0 hil (by rw [b3];decide)
   rw [hat] at this
   rw [this];rfl
  rw [if_neg (by rw [h2];simp)] at hn
  simp only [tZ,↓un_u,simprocAttr,Cnd.op,Cnd.col,Cnd.code,Cnd.lo,Cnd.hi,Cnd.kids,q1,q2,q3,q4,q5,q6,q7,h2,hci,getD_mapT hil,hli,hgl,tD]
  refine ⟨by kernel_rfl,fun h3=>?_,fun h3=>?_⟩
  ·rw [hbad 2 (by decide) (by rw [hn,if_pos (by omega)])]
   exact .oA [] []
  rw [hgood (by rw [hn,if_neg (by omega)])]
 rotate_left
 focus
  have q1:(op == 1) = false:=by rw [e];rfl
  have q2:(op == 2) = false:=by rw [e];rfl
  have q3:(op == 3) = false:=by rw [e];rfl
  have q4:(op == 4) = true:=by rw [e];rfl
  have q5:(op == 5) = false:=by rw [e];rfl
  have q6:(op == 6) = false:=by rw [e];rfl
  have q7:(op == 7) = false:=by rw [e];rfl
  simp [arC,-List.length_eq_zero_iff,e] at hn
  refine spec_of_ir fn_ref05_node mixm (by simp) fun e _ hst=>W_start ?_
  unfold ir_ref05_node
  simp only [tZ,↓un_u,simprocAttr,Cnd.op,Cnd.col,Cnd.code,Cnd.lo,Cnd.hi,Cnd.kids,q1,q2,q3,q4,q5,q6,q7]
  refine ⟨by kernel_rfl,?_⟩
  refine ⟨fun h=>?_,fun h=>?_⟩
  ·rw [hbad 11 (by decide) (by rw [hn,if_pos];grind)]
   exact .oA [] []
  have hks:ks.length≤2:=by grind
  rw [if_neg (by grind)] at hn
  refine C2.im (fun _=>c_ref05_is s col 2) (fun _=>rfl) (by rfl) ?_
  simp only [tZ,↓un_u,simprocAttr,Cnd.op,Cnd.col,Cnd.code,Cnd.lo,Cnd.hi,Cnd.kids,q1,q2,q3,q4,q5,q6,q7]
  refine C2.im (fun _=>c_ref05_is s col 3) (fun _=>rfl) (by rfl) ?_
  simp only [tZ,↓un_u,simprocAttr,Cnd.op,Cnd.col,Cnd.code,Cnd.lo,Cnd.hi,Cnd.kids,q1,q2,q3,q4,q5,q6,q7]
  refine C2.im (fun _=>c_ref05_is s col 3) (fun _=>rfl) (by rfl) ?_
  by_cases h2:isB s col 3 = false
  ·rw [hbad 7 (by decide) (by rw [hn,if_pos (by grind)])]
   rcases Nat.lt_or_ge col.toNat s.cols.length with hk | hk
   ·simp only [tZ,↓un_u,simprocAttr,Cnd.op,Cnd.col,Cnd.code,Cnd.lo,Cnd.hi,Cnd.kids,q1,q2,q3,q4,q5,q6,q7,h2,getD_mapT hk]
    exact .oA [] []
   ·simp only [tZ,↓un_u,simprocAttr,Cnd.op,Cnd.col,Cnd.code,Cnd.lo,Cnd.hi,Cnd.kids,q1,q2,q3,q4,q5,q6,q7,h2,getD_out hk,List.drop_succ_cons,List.drop_nil]
    exact .oA [] []
  rw [Bool.not_eq_false] at h2
  obtain ⟨b1,b2,b3⟩:=isB_ok.1 h2
  obtain ⟨i,hci⟩:∃ i:Nat,col.toNat = i:=⟨_,rfl⟩
  rw [hci] at b3
  try rw [hci] at hn
  have hil:i < s.cols.length:=by omega
  have hat:colAt s i = s.cols[i]:=by rw [colAt,getD_get hil]
  have hli:s.cols[i].list.toNat = 0:=by
   have:=hok.list0 hil (by rw [b3];decide)
   rw [hat] at this
   rw [this];rfl
  have hn:E = if s.cols[i].opt = false then 7 else 0:=by
   rw [hn]
   simp [hil,h2]
  simp only [tZ,↓un_u,simprocAttr,Cnd.op,Cnd.col,Cnd.code,Cnd.lo,Cnd.hi,Cnd.kids,q1,q2,q3,q4,q5,q6,q7,h2,hci,getD_mapT hil,hli,hgl,Bool.not_eq_true',Bool.not_eq_false']
  refine ⟨by omega,fun h3=>?_,fun h3=>?_⟩
  ·rw [hbad 7 (by decide) (by rw [hn,if_pos h3])]
   exact .oA [] []
  rw [hgood (by rw [hn,if_neg (by rw [h3];simp)])]
  refine ⟨by kernel_rfl,?_⟩
 rotate_left
 focus
  have q1:(op == 1) = false:=by rw [e];rfl
  have q2:(op == 2) = false:=by rw [e];rfl
  have q3:(op == 3) = false:=by rw [e];rfl
  have q4:(op == 4) = false:=by rw [e];rfl
  have q5:(op == 5) = true:=by rw [e];rfl
  have q6:(op == 6) = false:=by rw [e];rfl
  have q7:(op == 7) = false:=by rw [e];rfl
  simp [arC,-List.length_eq_zero_iff,e] at hn
  refine spec_of_ir fn_ref05_node mixm (by simp) fun e _ hst=>W_start ?_
  unfold ir_ref05_node
  simp only [tZ,↓un_u,simprocAttr,Cnd.op,Cnd.col,Cnd.code,Cnd.lo,Cnd.hi,Cnd.kids,q1,q2,q3,q4,q5,q6,q7]
  refine ⟨by kernel_rfl,fun h=>?_,fun h=>?_⟩
  ·rw [hbad 11 (by decide) (by rw [hn,if_pos];grind)]
   exact .oA [] []
  have hks:ks.length≤2:=by grind
  rw [hgood (by rw [hn,if_neg];grind)]
  have hc0:col.toNat = 0:=by grind
  refine C2.im (fun _=>c_ref05_is s col 2) (fun _=>rfl) (by rfl) ?_
  simp only [tZ,↓un_u,simprocAttr,Cnd.op,Cnd.col,Cnd.code,Cnd.lo,Cnd.hi,Cnd.kids,q1,q2,q3,q4,q5,q6,q7]
  refine C2.im (fun _=>c_ref05_is s col 3) (fun _=>rfl) (by rfl) ?_
  simp only [tZ,↓un_u,simprocAttr,Cnd.op,Cnd.col,Cnd.code,Cnd.lo,Cnd.hi,Cnd.kids,q1,q2,q3,q4,q5,q6,q7]
  refine C2.im (fun _=>c_ref05_is s col 3) (fun _=>rfl) (by rfl) ?_
  simp only [tZ,↓un_u,simprocAttr,Cnd.op,Cnd.col,Cnd.code,Cnd.lo,Cnd.hi,Cnd.kids,q1,q2,q3,q4,q5,q6,q7,hc0,hg0,hl0,hgl]
  refine ⟨by kernel_rfl,?_⟩
 rotate_left
 focus
  have q1:(op == 1) = false:=by rw [e];rfl
  have q2:(op == 2) = false:=by rw [e];rfl
  have q3:(op == 3) = false:=by rw [e];rfl
  have q4:(op == 4) = false:=by rw [e];rfl
  have q5:(op == 5) = false:=by rw [e];rfl
  have q6:(op == 6) = true:=by rw [e];rfl
  have q7:(op == 7) = false:=by rw [e];rfl
  simp [arC,-List.length_eq_zero_iff,e] at hn
  refine spec_of_ir fn_ref05_node mixm (by simp) fun e _ hst=>W_start ?_
  unfold ir_ref05_node
  simp only [tZ,↓un_u,simprocAttr,Cnd.op,Cnd.col,Cnd.code,Cnd.lo,Cnd.hi,Cnd.kids,q1,q2,q3,q4,q5,q6,q7]
  refine ⟨by kernel_rfl,fun h=>?_,fun h=>?_⟩
  ·rw [hbad 11 (by decide) (by rw [hn,if_pos];grind)]
   exact .oA [] []
  have hks:ks.length≤2:=by grind
  rw [hgood (by rw [hn,if_neg];grind)]
  have hc0:col.toNat = 0:=by grind
  refine C2.im (fun _=>c_ref05_is s col 2) (fun _=>rfl) (by rfl) ?_
  simp only [tZ,↓un_u,simprocAttr,Cnd.op,Cnd.col,Cnd.code,Cnd.lo,Cnd.hi,Cnd.kids,q1,q2,q3,q4,q5,q6,q7]
  refine C2.im (fun _=>c_ref05_is s col 3) (fun _=>rfl) (by rfl) ?_
  simp only [tZ,↓un_u,simprocAttr,Cnd.op,Cnd.col,Cnd.code,Cnd.lo,Cnd.hi,Cnd.kids,q1,q2,q3,q4,q5,q6,q7]
  refine C2.im (fun _=>c_ref05_is s col 3) (fun _=>rfl) (by rfl) ?_
  simp only [tZ,↓un_u,simprocAttr,Cnd.op,Cnd.col,Cnd.code,Cnd.lo,Cnd.hi,Cnd.kids,q1,q2,q3,q4,q5,q6,q7,hc0,hg0,hl0,hgl]
  refine ⟨by kernel_rfl,?_⟩
 rotate_left
 focus
  have q1:(op == 1) = false:=by rw [e];rfl
  have q2:(op == 2) = false:=by rw [e];rfl
  have q3:(op == 3) = false:=by rw [e];rfl
  have q4:(op == 4) = false:=by rw [e];rfl
  have q5:(op == 5) = false:=by rw [e];rfl
  have q6:(op == 6) = false:=by rw [e];rfl
  have q7:(op == 7) = true:=by rw [e];rfl
  simp [arC,-List.length_eq_zero_iff,e] at hn
  refine spec_of_ir fn_ref05_node mixm (by simp) fun e _ hst=>W_start ?_
  unfold ir_ref05_node
  simp only [tZ,↓un_u,simprocAttr,Cnd.op,Cnd.col,Cnd.code,Cnd.lo,Cnd.hi,Cnd.kids,q1,q2,q3,q4,q5,q6,q7]
  refine ⟨by kernel_rfl,fun h=>?_,fun h=>?_⟩
  ·rw [hbad 11 (by decide) (by rw [hn,if_pos];grind)]
   exact .oA [] []
  have hks:ks.length≤2:=by grind
  rw [hgood (by rw [hn,if_neg];grind)]
  have hc0:col.toNat = 0:=by grind
  refine C2.im (fun _=>c_ref05_is s col 2) (fun _=>rfl) (by rfl) ?_
  simp only [tZ,↓un_u,simprocAttr,Cnd.op,Cnd.col,Cnd.code,Cnd.lo,Cnd.hi,Cnd.kids,q1,q2,q3,q4,q5,q6,q7]
  refine C2.im (fun _=>c_ref05_is s col 3) (fun _=>rfl) (by rfl) ?_
  simp only [tZ,↓un_u,simprocAttr,Cnd.op,Cnd.col,Cnd.code,Cnd.lo,Cnd.hi,Cnd.kids,q1,q2,q3,q4,q5,q6,q7]
  refine C2.im (fun _=>c_ref05_is s col 3) (fun _=>rfl) (by rfl) ?_
  simp only [tZ,↓un_u,simprocAttr,Cnd.op,Cnd.col,Cnd.code,Cnd.lo,Cnd.hi,Cnd.kids,q1,q2,q3,q4,q5,q6,q7,hc0,hg0,hl0,hgl]
  refine ⟨by kernel_rfl,?_⟩
 rotate_left
 focus
  have q1:(op == 1) = false:=beq_eq_false_iff_ne.2 (by omega)
  have q2:(op == 2) = false:=beq_eq_false_iff_ne.2 (by omega)
  have q3:(op == 3) = false:=beq_eq_false_iff_ne.2 (by omega)
  have q4:(op == 4) = false:=beq_eq_false_iff_ne.2 (by omega)
  have q5:(op == 5) = false:=beq_eq_false_iff_ne.2 (by omega)
  have q6:(op == 6) = false:=beq_eq_false_iff_ne.2 (by omega)
  have q7:(op == 7) = false:=beq_eq_false_iff_ne.2 (by omega)
  rw [hbad 4 (by decide) (by rw [hn,if_pos e])]
  refine spec_of_ir fn_ref05_node mixm (by simp) fun e _ hst=>W_start ?_
  unfold ir_ref05_node
  simp only [tZ,↓un_u,simprocAttr,Cnd.op,Cnd.col,Cnd.code,Cnd.lo,Cnd.hi,Cnd.kids,q1,q2,q3,q4,q5,q6,q7]
  refine ⟨by kernel_rfl,?_⟩
  exact .oA [] []
 all_goals (
  refine W_loopF mixm (α:=Nat) [7,77,121,147,167] (fun i=>i≤ks.length∧nodEs s (ks.take i) = 0) (fun i=>[(7,vI i)]) (fun i=>[(4096,.arr 2 [schT s] false),(4100,.arr 6 [.agg [vI op,vI col,vI code,vI lo,vI hi,vCs ks]] false)]) (fun i=>ks.length - i) 0 ⟨by omega,by rw [List.take_zero,nodEs]⟩ ?_ fun i hi2=>?_
  ·exact .oA [(4096,some 4096),(4100,some 4100)] []
  obtain ⟨i1,i2⟩:=hi2
  refine sD ?_
  refine ⟨fun h5=>?_,fun h5=>?_⟩
  ·have hi2:i < ks.length:=by omega
   have hwi:=i64_succ (i:=i) (by omega)
   simp only [tZ,↓un_u,simprocAttr,Int.toNat_natCast,getD_mapT hi2,cndT_eq]
   refine ⟨by omega,?_⟩
   refine C1.im (ih _ (List.getElem_mem hi2)) (by rfl) (by rfl) ?_
   simp only [tZ,↓un_u,simprocAttr,hwi,bne_iff_ne,bne_eq_false_iff_eq]
   refine ⟨by kernel_rfl,fun h6=>?_,fun h6=>?_⟩
   ·rw [nodEs_stays hi2 i2 h6]
    exact .oA [] []
   ·refine ⟨i + 1,⟨by omega,by rw [take_snoc hi2];exact nodEs_snoc i2 h6⟩,by omega,?_⟩
    exact .oA [(4096,some 4096),(4100,some 4100)] []
  ·have hil:i = ks.length:=by omega
   subst hil
   rw [List.take_length] at i2
   rw [i2]
   exact .oA [] []
  )
end Go.Proofs
