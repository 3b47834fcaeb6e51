/- A part of the proof: trees of Go values, short forms, contracts. -/
import Derived.WalkKit
import Derived.Still
import Derived.MapKept
import GoSem.Builtin.Cap
import Derived.Laws.Externs
import GoSem.Extern.SlicesOverlaps
import Derived.Carry
import Derived.ProofKit
import Derived.OpenShut
import Derived.HandedShaped
import Derived.Lay
import Derived.LaidLaws
import Derived.MakeChecks
import Derived.SevenTiedAt
import Derived.Test.YtlpllebfjgflaaaGreatDoorChecked
import Derived.Test.YtlpllebfjgflaaaGreatDoorK15
set_option linter.unusedSimpArgs false
set_option linter.unusedVariables false
namespace Go.Proofs
open Go Go.TL
set_option maxRecDepth 4000
set_option maxHeartbeats 8000000
theorem c_slices_IndexFunc_CodeList (p:CodL→Bool) (f:FuncId) (caps:List T) (hcap:imL caps = true) (l:List CodL) (hf:∀ y∈l,Spc Tryz.prog f (cdlT y :: caps) [] (vB (p y)) []) (hl:l.length < 4611686018427387904) :
 Spc Tryz.prog F_slices_IndexFunc_CodeList [.sl 2 (l.map cdlT),.clo f caps] [] (vI (idxI p l)) []:=by
 refine spec_of_ir fn_slices_IndexFunc_CodeList mixm (by simp) fun e _ hst=>W_start ?_
 unfold ir_slices_IndexFunc_CodeList
 refine sW ?_
 refine W_loopF mixm (α:=Nat) [8] (fun i=>i≤l.length∧((l.take i).any p = false)) (fun i=>[(8,vI i)]) (fun i=>[]) (fun i=>l.length - i) 0 ⟨by omega,?_⟩ ?_ fun i hi=>?_
 ·simp
 ·exact .oA [] []
 simp only [tZ,↓un_u,simprocAttr,decide_eq_true_eq,decide_eq_false_iff_not]
 refine ⟨fun h=>?_,fun h=>?_⟩
 ·have hi2:i < l.length:=by omega
  have hwi:=i64_succ (i:=i) (by omega)
  simp only [tZ,↓un_u,simprocAttr,Int.toNat_natCast,getD_mapT hi2,hwi,cells_v]
  refine ⟨by omega,?_⟩
  refine C1.im (hf l[i] (List.getElem_mem hi2)) (imAL_cons rfl hcap) rfl ?_
  refine sW ?_
  refine ⟨fun h3=>?_,fun h3=>⟨i + 1,⟨by omega,any_snoc hi2 hi.2 h3⟩,by omega,?_⟩⟩
  ·rw [idxI,if_pos (any_at hi2 h3),findIdx_at hi2 hi.2 h3]
   exact .imR rfl rfl
  ·exact .oA [] []
 ·have h2:i = l.length:=by omega
  have h3:=hi.2
  rw [h2,List.take_length] at h3
  rw [idxI,if_neg (by rw [h3];simp)]
  exact .imR rfl rfl
theorem c_slices_ContainsFunc_CodeList (p:CodL→Bool) (f:FuncId) (caps:List T) (hcap:imL caps = true) (l:List CodL) (hf:∀ y∈l,Spc Tryz.prog f (cdlT y :: caps) [] (vB (p y)) []) (hl:l.length < 4611686018427387904) :
 Spc Tryz.prog F_slices_ContainsFunc_CodeList [.sl 2 (l.map cdlT),.clo f caps] [] (vB (l.any p)) []:=by
 refine spec_of_ir fn_slices_ContainsFunc_CodeList mixm (by simp) fun e _ hst=>W_start ?_
 unfold ir_slices_ContainsFunc_CodeList
 refine sW ?_
 refine C1.im (c_slices_IndexFunc_CodeList p f caps hcap l hf hl) (imAL_clo rfl hcap) rfl ?_
 refine sW ?_
 rw [show decide (idxI p l≥0) = l.any p from idxI_ge p l]
 exact .imR rfl rfl
theorem c_slices_IndexFunc_Column (p:Col→Bool) (f:FuncId) (caps:List T) (hcap:imL caps = true) (l:List Col) (hf:∀ y∈l,Spc Tryz.prog f (colT y :: caps) [] (vB (p y)) []) (hl:l.length < 4611686018427387904) :
 Spc Tryz.prog F_slices_IndexFunc_Column [.sl 7 (l.map colT),.clo f caps] [] (vI (idxI p l)) []:=by
 refine spec_of_ir fn_slices_IndexFunc_Column mixm (by simp) fun e _ hst=>W_start ?_
 unfold ir_slices_IndexFunc_Column
 refine sW ?_
 refine W_loopF mixm (α:=Nat) [8] (fun i=>i≤l.length∧((l.take i).any p = false)) (fun i=>[(8,vI i)]) (fun i=>[]) (fun i=>l.length - i) 0 ⟨by omega,?_⟩ ?_ fun i hi=>?_
 ·simp
 ·exact .oA [] []
 simp only [tZ,↓un_u,simprocAttr,decide_eq_true_eq,decide_eq_false_iff_not]
 refine ⟨fun h=>?_,fun h=>?_⟩
 ·have hi2:i < l.length:=by omega
  have hwi:=i64_succ (i:=i) (by omega)
  simp only [tZ,↓un_u,simprocAttr,Int.toNat_natCast,getD_mapT hi2,hwi,cells_v]
  refine ⟨by omega,?_⟩
  refine C1.im (hf l[i] (List.getElem_mem hi2)) (imAL_cons rfl hcap) rfl ?_
  refine sW ?_
  refine ⟨fun h3=>?_,fun h3=>⟨i + 1,⟨by omega,any_snoc hi2 hi.2 h3⟩,by omega,?_⟩⟩
  ·rw [idxI,if_pos (any_at hi2 h3),findIdx_at hi2 hi.2 h3]
   exact .imR rfl rfl
  ·exact .oA [] []
 ·have h2:i = l.length:=by omega
  have h3:=hi.2
  rw [h2,List.take_length] at h3
  rw [idxI,if_neg (by rw [h3];simp)]
  exact .imR rfl rfl
theorem c_slices_ContainsFunc_Column (p:Col→Bool) (f:FuncId) (caps:List T) (hcap:imL caps = true) (l:List Col) (hf:∀ y∈l,Spc Tryz.prog f (colT y :: caps) [] (vB (p y)) []) (hl:l.length < 4611686018427387904) :
 Spc Tryz.prog F_slices_ContainsFunc_Column [.sl 7 (l.map colT),.clo f caps] [] (vB (l.any p)) []:=by
 refine spec_of_ir fn_slices_ContainsFunc_Column mixm (by simp) fun e _ hst=>W_start ?_
 unfold ir_slices_ContainsFunc_Column
 refine sW ?_
 refine C1.im (c_slices_IndexFunc_Column p f caps hcap l hf hl) (imAL_clo rfl hcap) rfl ?_
 refine sW ?_
 rw [show decide (idxI p l≥0) = l.any p from idxI_ge p l]
 exact .imR rfl rfl
theorem c_schema_Check_1 (x y:CodL):Spc Tryz.prog F_schema_Check_1 [cdlT x,.ip (cdlT y).cells] [] (vB (eqB x.name y.name)) []:=by
 refine spec_of_ir fn_schema_Check_1 mixm (by simp) fun e _ hst=>W_start ?_
 unfold ir_schema_Check_1
 refine sW ?_
 rw [show (x.name.toList == y.name.toList) = eqB x.name y.name from rfl]
 exact .oA [] []
theorem c_schema_checkColumn_1 (x y:Col):Spc Tryz.prog F_schema_checkColumn_1 [colT x,.ip (colT y).cells] [] (vB (eqB x.name y.name)) []:=by
 refine spec_of_ir fn_schema_checkColumn_1 mixm (by simp) fun e _ hst=>W_start ?_
 unfold ir_schema_checkColumn_1
 refine sW ?_
 rw [show (x.name.toList == y.name.toList) = eqB x.name y.name from rfl]
 exact .oA [] []
def unuB (c:Col):Bool:=!(((c.kind != 2) && (c.list != 0)) || ((c.kind != 3) && ((c.low != 0) || (c.high != 0) || (c.widths.length != 0) || c.opt)))
theorem c_schema_unused (c:Col):Spc Tryz.prog F_schema_unused [colT c] [] (vB (unuB c)) []:=by
 refine spec_of_ir fn_schema_unused mixm (by simp) fun e _ hst=>W_start ?_
 unfold ir_schema_unused
 refine sW ?_
 refine ⟨fun h=>?_,fun h=>?_⟩
 ·have:unuB c = false:=by unfold unuB;rw [h];rfl
  rw [this]
  exact .oA [] []
 ·have e:((c.widths.length:Int) == 0) = (c.widths.length == 0):=by rw [Bool.eq_iff_iff,beq_iff_eq,beq_iff_eq];omega
  have:unuB c = (c.kind == 3 || c.low == 0 && c.high == 0 && ((c.widths.length:Int) == 0) && !c.opt):=by
   unfold unuB
   rw [h,e]
   simp only [Bool.false_or,bne,Bool.not_and,Bool.not_or,Bool.not_not]
  rw [this]
  exact .oA [] []
def lastW (ws:List Int) (i:Nat):Int:=if i = 0 then 1 else ws.getD (i - 1) 0
theorem c_schema_checkMeasure (c:Col):Spc Tryz.prog F_schema_checkMeasure [colT c] [] (vI (measE c)) []:=by
 refine spec_of_ir fn_schema_checkMeasure mixm (by simp) fun e _ hst=>W_start ?_
 unfold ir_schema_checkMeasure
 refine sW ?_
 simp only [tZ,↓un_u,simprocAttr,tD,Bool.not_eq_true',Bool.not_eq_false',beq_iff_eq,beq_eq_false_iff_ne]
 have hin:∀ n:Int,inB n (-1000000) 1000000 = false↔(n < -1000000∨n > 1000000):=fun n=>by
  unfold inB
  rw [Bool.and_eq_false_iff,decide_eq_false_iff_not,decide_eq_false_iff_not]
  omega
 refine ⟨fun h=>?_,fun h=>?_⟩
 ·have k:inB c.low (-1000000) 1000000 = false∨inB c.high (-1000000) 1000000 = false∨c.low > c.high:=by
   rw [hin,hin]
   omega
  rw [measE,if_pos k]
  exact .oA [] []
 have hA:¬ (inB c.low (-1000000) 1000000 = false∨inB c.high (-1000000) 1000000 = false∨c.low > c.high):=by
  rw [hin,hin]
  omega
 refine ⟨fun h2=>?_,fun h2=>?_⟩
 ·rw [measE,if_neg hA,if_pos (by omega)]
  exact .oA [] []
 have hm:measE c = if wdAll c.widths = false then 2 else 0:=by rw [measE,if_neg hA,if_neg (by omega)]
 refine W_loopF mixm (α:=Nat) [3,36] (fun i=>i≤c.widths.length∧(∀ j,j < i→wdOk c.widths j = true)) (fun i=>[(3,vI (lastW c.widths i)),(36,vI i)]) (fun i=>[]) (fun i=>c.widths.length - i) 0 ⟨by omega,?_⟩ ?_ fun i hi=>?_
 ·intro j hj;omega
 ·exact .oA [] []
 have hbad:i < c.widths.length→wdOk c.widths i = false→measE c = 2:=fun h1 h2=>by
  rw [hm,if_pos]
  exact List.all_eq_false.2 ⟨i,List.mem_range.2 h1,by rw [h2];simp⟩
 have hok:wdOk c.widths i = true→∀ j,j < i + 1→wdOk c.widths j = true:=fun h1 j hj=>by
  by_cases e:j = i
  ·rw [e];exact h1
  ·exact hi.2 j (by omega)
 simp only [tZ,↓un_u,simprocAttr,decide_eq_true_eq,decide_eq_false_iff_not]
 refine ⟨fun h=>?_,fun h=>?_⟩
 ·have hi2:i < c.widths.length:=by omega
  have hwi:=i64_succ (i:=i) (by omega)
  have hnx:lastW c.widths (i + 1) = c.widths[i]:=by rw [lastW,if_neg (by omega),Nat.add_sub_cancel,getD_get hi2]
  rcases Nat.eq_zero_or_pos i with h0 | h0
  ·subst h0
   have hw0:wdOk c.widths 0 = (c.widths[0] == 1):=by rw [wdOk,if_pos rfl,getD_get hi2]
   have hz:((0:Nat):Int) = 0:=rfl
   rw [hz] at hwi
   simp only [tZ,↓un_u,simprocAttr,Int.toNat_natCast,hz,beq_self_eq_true,gt_iff_lt,Int.lt_irrefl,decide_false,Bool.false_and,Bool.or_false,Bool.true_and,getD_mapT hi2,bne_iff_ne,bne_eq_false_iff_eq]
   have hwz:IntKind.i64.wrap 1 = ((1:Nat):Int):=by decide
   refine ⟨by omega,fun h3=>?_,fun h3=>?_⟩
   ·rw [hbad hi2 (by rw [hw0];simpa using h3)]
    exact .oA [] []
   ·rw [hwz]
    refine ⟨1,⟨by omega,hok (by rw [hw0];simpa using h3)⟩,by omega,?_⟩
    rw [hnx]
    exact .oA [] []
  ·have e1:((i:Int) == 0) = false:=beq_eq_false_iff_ne.2 (by omega)
   have e2:decide ((i:Int) > 0) = true:=decide_eq_true (by omega)
   have hw1:wdOk c.widths i = (decide (lastW c.widths i < c.widths[i]) && decide (c.widths[i]≤1000000) && (c.widths[i].tmod (lastW c.widths i) == 0)):=by
    rw [wdOk,if_neg (by omega),getD_get hi2,lastW,if_neg (by omega)]
   have hp1:1≤lastW c.widths i:=by
    have:=wd_pos (ws:=c.widths) hi.2 (i - 1) (by omega)
    rw [lastW,if_neg (by omega)]
    exact this
   simp only [tZ,↓un_u,simprocAttr,Int.toNat_natCast,getD_mapT hi2,e1,e2,hwi,tD,bne_iff_ne,bne_eq_false_iff_eq]
   refine ⟨by omega,fun _=>by omega,fun h3=>?_,fun h3=>?_⟩
   ·rw [hbad hi2 (by rw [hw1];grind)]
    exact .oA [] []
   ·refine ⟨i + 1,⟨by omega,hok (by rw [hw1];grind)⟩,by omega,?_⟩
    rw [hnx]
    exact .oA [] []
 ·have hi2:i = c.widths.length:=by omega
  subst hi2
  rw [hm,if_neg]
  ·exact .oA [] []
  ·rw [Bool.not_eq_false]
   exact List.all_eq_true.2 fun j hj=>hi.2 j (List.mem_range.1 hj)
theorem c_schema_checkColumn (s:Sch) (i:Nat) (hi:i < s.cols.length) (hn:s.cols.length < 4611686018427387904) (hl:s.lists.length < 4611686018427387904):Spc Tryz.prog F_schema_checkColumn [schT s,vI i] [] (vI (colE s i)) []:=by
 have hat:colAt s i = s.cols[i]:=by rw [colAt,getD_get hi]
 have hE:colE s i = if nameB s.cols[i].name = false then 3
  else if ((s.cols.take i).any fun x=>eqB x.name s.cols[i].name) = true then 10
  else if inB s.cols[i].kind 1 3 = false∨(0 < i∧s.cols[i].kind = 1) then 4
  else if s.cols[i].kind = 2∧inB s.cols[i].list 0 (s.lists.length - 1) = false then 5
  else if s.cols[i].kind = 3∧measE s.cols[i]≠0 then measE s.cols[i]
  else if (s.cols[i].kind≠2∧s.cols[i].list≠0)∨(s.cols[i].kind≠3∧(s.cols[i].low≠0∨s.cols[i].high≠0∨0 < s.cols[i].widths.length∨s.cols[i].opt = true)) then 11 else 0:=by rw [colE,hat]
 rw [hE]
 refine spec_of_ir fn_schema_checkColumn mixm (by simp) fun e _ hst=>W_start ?_
 unfold ir_schema_checkColumn
 simp only [tZ,↓un_u,simprocAttr,Int.toNat_natCast,getD_mapT hi]
 generalize s.cols[i] = c
 refine ⟨by omega,?_⟩
 refine C1.im (c_codes_Name c.name) (by rfl) (by rfl) ?_
 simp only [tZ,↓un_u,simprocAttr,Bool.not_eq_true',Bool.not_eq_false']
 refine ⟨fun h=>?_,fun h=>?_⟩
 ·rw [if_pos h]
  exact .oA [] []
 rw [if_neg (by rw [h];simp)]
 have hCF:=c_slices_ContainsFunc_Column (fun x=>eqB x.name c.name) F_schema_checkColumn_1 [.ip (colT c).cells] rfl (s.cols.take i) (fun x _=>c_schema_checkColumn_1 x c) (by rw [List.length_take];omega)
 refine ⟨by omega,?_⟩
 rw [cut_map,cut_to]
 refine C1.lend [8212] hCF ?_ (by rfl) (by rfl) ?_
 ·all_goals (try simp only [tL,simprocAttr,List.map_append,List.map_cons,List.map_nil,List.cons_append,List.nil_append])
  all_goals (try (repeat' (first | exact ltXs_nil | (apply ltXs_map;intro _;exact ⟨rfl,rfl⟩) | (apply imXs_map;intro _;exact ⟨rfl,rfl⟩) | with_reducible apply imXs_append | with_reducible refine imXs_cons ⟨rfl,rfl⟩ ?_ | exact imXs_nil | with_reducible apply ltXs_append | with_reducible refine ltXs_cons ⟨rfl,rfl,?_⟩ ?_ | with_reducible apply And.intro | exact ltCs_im rfl | exact ltCs_im (by assumption) | (refine ⟨⟨?_,rfl,?_,rfl,?_⟩,trivial⟩ <;> first | (simp;done) | (apply imXs_map;intro _;exact ⟨rfl,rfl⟩)) | trivial | rfl | (rw [i64_succ (by omega)]) | omega)))
  simp only [ltP]
  exact ⟨rfl,by decide,rfl,imXs_cons ⟨rfl,rfl⟩ imXs_nil⟩
 simp only [tZ,↓un_u,simprocAttr,tD,Bool.not_eq_true',Bool.not_eq_false',beq_iff_eq,beq_eq_false_iff_ne]
 refine ⟨fun h2=>?_,fun h2=>?_⟩
 ·rw [if_pos h2]
  exact .oA [] []
 rw [if_neg (by rw [h2];simp)]
 have hI:inB c.kind 1 3 = false↔¬ (1≤c.kind∧c.kind≤3):=by unfold inB;rw [Bool.and_eq_false_iff,decide_eq_false_iff_not,decide_eq_false_iff_not];omega
 have hL:inB c.list 0 (s.lists.length - 1) = false↔(c.list < 0∨(s.lists.length:Int)≤c.list):=by unfold inB;rw [Bool.and_eq_false_iff,decide_eq_false_iff_not,decide_eq_false_iff_not];omega
 have hU:unuB c = false↔((c.kind≠2∧c.list≠0)∨(c.kind≠3∧(c.low≠0∨c.high≠0∨0 < c.widths.length∨c.opt = true))):=by
  have hw0:c.widths.length≠0↔0 < c.widths.length:=by omega
  unfold unuB
  rw [Bool.not_eq_false',Bool.or_eq_true,Bool.and_eq_true,Bool.and_eq_true,bne_iff_ne,bne_iff_ne,bne_iff_ne,Bool.or_eq_true,Bool.or_eq_true,Bool.or_eq_true,bne_iff_ne,bne_iff_ne,bne_iff_ne,hw0,or_assoc,or_assoc]
 have hfin:∀ (v:Int),(unuB c = false→v = 11)→(unuB c = true→v = 0)→v = if (c.kind≠2∧c.list≠0)∨(c.kind≠3∧(c.low≠0∨c.high≠0∨0 < c.widths.length∨c.opt = true)) then 11 else 0:=fun v h11 h00=>by
  by_cases k:unuB c = false
  ·rw [if_pos (hU.1 k),h11 k]
  ·rw [if_neg (fun e=>k (hU.2 e)),h00 (by simpa using k)]
 refine ⟨fun k1=>⟨fun h3=>?_,fun h3=>?_⟩,fun k1=>⟨fun k2=>⟨fun h3=>?_,fun h3=>?_⟩,fun k2=>⟨fun k3=>?_,fun k3=>?_⟩⟩⟩
 ·rw [if_pos (.inr ⟨by omega,k1⟩)]
  exact .oA [] []
 ·rw [if_neg (by rw [hI];omega),if_neg (by omega),if_neg (by omega)]
  refine C1.im (c_schema_unused c) (by rfl) (by rfl) ?_
  simp only [tZ,↓un_u,simprocAttr,Bool.not_eq_true',Bool.not_eq_false']
  refine ⟨fun h4=>?_,fun h4=>?_⟩
  ·rw [← hfin 11 (fun _=>rfl) (fun k=>by rw [h4] at k;cases k)]
   exact .oA [] []
  ·rw [← hfin 0 (fun k=>by rw [h4] at k;cases k) (fun _=>rfl)]
   exact .oA [] []
 ·rw [if_neg (by rw [hI];omega),if_pos ⟨k2,hL.2 h3⟩]
  exact .oA [] []
 ·rw [if_neg (by rw [hI];omega),if_neg (by rw [hL];omega),if_neg (by omega)]
  refine C1.im (c_schema_unused c) (by rfl) (by rfl) ?_
  simp only [tZ,↓un_u,simprocAttr,Bool.not_eq_true',Bool.not_eq_false']
  refine ⟨fun h4=>?_,fun h4=>?_⟩
  ·rw [← hfin 11 (fun _=>rfl) (fun k=>by rw [h4] at k;cases k)]
   exact .oA [] []
  ·rw [← hfin 0 (fun k=>by rw [h4] at k;cases k) (fun _=>rfl)]
   exact .oA [] []
 ·rw [if_neg (by rw [hI];omega),if_neg (by omega)]
  refine C1.im (c_schema_checkMeasure c) (by rfl) (by rfl) ?_
  simp only [tZ,↓un_u,simprocAttr,bne_iff_ne,bne_eq_false_iff_eq]
  refine ⟨fun h3=>?_,fun h3=>?_⟩
  ·rw [if_pos ⟨k3,h3⟩]
   exact .oA [] []
  rw [if_neg (by omega)]
  refine C1.im (c_schema_unused c) (by rfl) (by rfl) ?_
  simp only [tZ,↓un_u,simprocAttr,Bool.not_eq_true',Bool.not_eq_false']
  refine ⟨fun h4=>?_,fun h4=>?_⟩
  ·rw [← hfin 11 (fun _=>rfl) (fun k=>by rw [h4] at k;cases k)]
   exact .oA [] []
  ·rw [← hfin 0 (fun k=>by rw [h4] at k;cases k) (fun _=>rfl)]
   exact .oA [] []
 ·rw [if_pos (.inl (hI.2 (by omega)))]
  exact .oA [] []
theorem c_schema_Check (s:Sch) (hn:s.cols.length < 4611686018427387904) (hl:s.lists.length < 4611686018427387904):Spc Tryz.prog F_schema_Check [schT s] [] (vI (schE s)) []:=by
 refine spec_of_ir fn_schema_Check mixm (by simp) fun e _ hst=>W_start ?_
 unfold ir_schema_Check
 refine sD ?_
 refine ⟨fun h=>?_,fun h=>?_⟩
 ·rw [schE,if_pos (by omega)]
  exact .oA [] []
 have hE1:lstsE s s.lists.length≠0→schE s = lstsE s s.lists.length:=fun k=>by rw [schE,if_neg (by omega),if_pos k]
 refine W_loopF mixm (α:=Nat) [21] (fun i=>i≤s.lists.length∧lstsE s i = 0) (fun i=>[(21,vI i)]) (fun i=>[(4096,.arr 2 [schT s] false)]) (fun i=>s.lists.length - i) 0 ⟨by omega,rfl⟩ ?_ fun i hi=>?_
 ·exact .oA [(4096,some 4096)] []
 obtain ⟨i1,i2⟩:=hi
 refine sD ?_
 refine ⟨fun h2=>?_,fun h2=>?_⟩
 ·have hi2:i < s.lists.length:=by omega
  have hwi:=i64_succ (i:=i) (by omega)
  have hat:s.lists.getD i default = s.lists[i]:=getD_get hi2
  have hstep:lstsE s (i + 1) = if lstE s.lists[i]≠0 then lstE s.lists[i] else if ((s.lists.take i).any fun x=>eqB x.name s.lists[i].name) = true then 10 else 0:=by
   rw [lstsE,if_neg (by rw [i2];simp),hat]
  have hbad:lstsE s (i + 1)≠0→schE s = lstsE s (i + 1):=fun k=>by
   have:=lstsE_stays k s.lists.length (by omega)
   rw [hE1 (by rw [this];exact k),this]
  have hCF:=c_slices_ContainsFunc_CodeList (fun x=>eqB x.name s.lists[i].name) F_schema_Check_1 [.ip (cdlT s.lists[i]).cells] rfl (s.lists.take i) (fun x _=>c_schema_Check_1 x s.lists[i]) (by rw [List.length_take];omega)
  simp only [tZ,↓un_u,simprocAttr,Int.toNat_natCast,getD_mapT hi2,hwi]
  generalize s.lists[i] = c at *
  refine ⟨by omega,?_⟩
  refine C1.im (c_codes_Check c) (by rfl) (by rfl) ?_
  simp only [tZ,↓un_u,simprocAttr,bne_iff_ne,bne_eq_false_iff_eq]
  refine ⟨fun h3=>?_,fun h3=>?_⟩
  ·rw [if_pos h3] at hstep
   rw [hbad (by rw [hstep];exact h3),hstep]
   exact .oA [] []
  rw [if_neg (by rw [h3];simp)] at hstep
  refine ⟨by omega,?_⟩
  rw [cut_map,cut_to]
  refine C1.lend [24588] hCF ?_ (by rfl) (by rfl) ?_
  ·all_goals (try simp only [tL,simprocAttr,List.map_append,List.map_cons,List.map_nil,List.cons_append,List.nil_append])
   all_goals (try (repeat' (first | exact ltXs_nil | (apply ltXs_map;intro _;exact ⟨rfl,rfl⟩) | (apply imXs_map;intro _;exact ⟨rfl,rfl⟩) | with_reducible apply imXs_append | with_reducible refine imXs_cons ⟨rfl,rfl⟩ ?_ | exact imXs_nil | with_reducible apply ltXs_append | with_reducible refine ltXs_cons ⟨rfl,rfl,?_⟩ ?_ | with_reducible apply And.intro | exact ltCs_im rfl | exact ltCs_im (by assumption) | (refine ⟨⟨?_,rfl,?_,rfl,?_⟩,trivial⟩ <;> first | (simp;done) | (apply imXs_map;intro _;exact ⟨rfl,rfl⟩)) | trivial | rfl | (rw [i64_succ (by omega)]) | omega)))
   simp only [ltP]
   exact ⟨rfl,by decide,rfl,imXs_cons ⟨rfl,rfl⟩ imXs_nil⟩
  simp only [tZ,↓un_u,simprocAttr,hwi]
  refine ⟨fun h4=>?_,fun h4=>?_⟩
  ·rw [if_pos h4] at hstep
   rw [hbad (by rw [hstep];simp),hstep]
   exact .oA [] []
  ·rw [if_neg (by rw [h4];simp)] at hstep
   refine ⟨i + 1,⟨by omega,hstep⟩,by omega,?_⟩
   exact .oA [(4096,some 4096)] []
 ·have hil:i = s.lists.length:=by omega
  subst hil
  have hE2:s.cols.length = 0∨(colAt s 0).kind≠1→schE s = 7:=fun k=>by rw [schE,if_neg (by omega),if_neg (by rw [i2];simp),if_pos k]
  have hE3:¬ (s.cols.length = 0∨(colAt s 0).kind≠1)→schE s = colsE s s.cols.length:=fun k=>by rw [schE,if_neg (by omega),if_neg (by rw [i2];simp),if_neg k]
  have hz:((0:Nat):Int) = 0:=rfl
  by_cases h0:s.cols.length = 0
  ·have hn:s.cols = []:=List.length_eq_zero_iff.1 h0
   rw [hE2 (.inl h0)]
   simp only [tZ,↓un_u,simprocAttr,hn,List.length_nil,hz,beq_self_eq_true]
   exact .oA [] []
  ·have h0p:0 < s.cols.length:=by omega
   have e0:((s.cols.length:Int) == 0) = false:=beq_eq_false_iff_ne.2 (by omega)
   have hc0:colAt s 0 = s.cols[0]:=by rw [colAt,getD_get h0p]
   simp only [tZ,↓un_u,simprocAttr,e0,getD_mapT h0p,bne_iff_ne,bne_eq_false_iff_eq,Bool.false_or]
   refine ⟨by omega,fun h3=>?_,fun h3=>?_⟩
   ·rw [hE2 (.inr (by rw [hc0];exact h3))]
    exact .oA [] []
   have hE4:=hE3 (by rw [hc0];grind)
   refine W_loopF mixm (α:=Nat) [53] (fun i=>i≤s.cols.length∧colsE s i = 0) (fun i=>[(53,vI i)]) (fun i=>[(4096,.arr 2 [schT s] false)]) (fun i=>s.cols.length - i) 0 ⟨by omega,rfl⟩ ?_ fun i hi=>?_
   ·exact .oA [(4096,some 4096)] []
   simp only [tZ,↓un_u,simprocAttr,decide_eq_true_eq,decide_eq_false_iff_not]
   refine ⟨fun h=>?_,fun h=>?_⟩
   ·have hi2:i < s.cols.length:=by omega
    have hwi:=i64_succ (i:=i) (by omega)
    have hstep:colsE s (i + 1) = colE s i:=by rw [colsE,if_neg (by rw [hi.2];simp)]
    refine C1.im (c_schema_checkColumn s i hi2 hn hl) (by rfl) (by rfl) ?_
    simp only [tZ,↓un_u,simprocAttr,bne_iff_ne,bne_eq_false_iff_eq,hwi]
    refine ⟨fun h4=>?_,fun h4=>?_⟩
    ·have:=colsE_stays (s:=s) (i:=i + 1) (by rw [hstep];exact h4) s.cols.length (by omega)
     rw [hE4,this,hstep]
     exact .oA [] []
    ·refine ⟨i + 1,⟨by omega,by rw [hstep];exact h4⟩,by omega,?_⟩
     exact .oA [(4096,some 4096)] []
   ·have hil:i = s.cols.length:=by omega
    rw [hE4,← hil,hi.2]
    exact .oA [] []
end Go.Proofs
set_option linter.unusedSimpArgs false
set_option linter.unusedVariables false
namespace Go.Proofs
open Go Go.TL
def dgt (n:Nat):UInt8:=UInt8.ofNat (48 + n)
def topC:Cod:=⟨⟨#[116,111,112]⟩,-1⟩
def kidC (i:Nat):Cod:=⟨⟨#[107,dgt i]⟩,0⟩
def lefC (n i:Nat):Cod:=⟨⟨#[108,dgt n]⟩,1 + i⟩
def kidsL (k:Nat):List Cod:=topC :: (List.range k).map kidC
def addL (cs:List Cod) (i:Nat):List Cod:=cs ++ [lefC cs.length i]
def lefL:List Cod→Nat→List Nat→List Cod
 | cs,_,[]=>cs
 | cs,i,n :: r=>lefL ((List.range n).foldl (fun cs _=>addL cs i) cs) (i + 1) r
def allN:Nat→List (List Nat)
 | 0=>[[]]
 | n + 1=>(allN n).flatMap fun l=>[1 :: l,2 :: l]
theorem mem_allN:∀ {n:Nat} {l:List Nat},l.length = n→(∀ x∈l,x = 1∨x = 2)→l∈allN n
 | 0,[],_,_=>by simp [allN]
 | n + 1,x :: l,h,hx=>by
   have h1:=mem_allN (n:=n) (l:=l) (by simpa using h) fun y hy=>hx y (List.mem_cons_of_mem _ hy)
   rw [allN,List.mem_flatMap]
   refine ⟨l,h1,?_⟩
   rcases hx x (by simp) with h | h <;> subst h <;> simp
 | 0,_ :: _,h,_=>by simp at h
 | n + 1,[],h,_=>by simp at h
def nmOne:ByteArray:=⟨#[111,110,101]⟩
def nmTwo:ByteArray:=⟨#[116,119,111]⟩
theorem lists_ok:([nmOne,nmTwo].all fun nm=>[1,2,3].all fun k=>lstE ⟨nm,kidsL k⟩ == 0 && (allN k).all fun l=>lstE ⟨nm,lefL (kidsL k) 0 l⟩ == 0) = true:=by decide +kernel
structure DrL (nm:ByteArray) (l:CodL):Prop where
 nm:l.name = nm
 ok:lstE l = 0
 len:2≤l.codes.length∧l.codes.length≤10
theorem kids_ok {nm:ByteArray} (hn:nm = nmOne∨nm = nmTwo) {k:Nat} (hk:1≤k∧k≤3):lstE ⟨nm,kidsL k⟩ = 0∧∀ l,l.length = k→(∀ x∈l,x = 1∨x = 2)→lstE ⟨nm,lefL (kidsL k) 0 l⟩ = 0:=by
 have h1:=List.all_eq_true.1 lists_ok nm (by rcases hn with h | h <;> subst h <;> simp)
 have hk3:k∈[1,2,3]:=by
  have:k = 1∨k = 2∨k = 3:=by omega
  rcases this with h | h | h <;> subst h <;> simp
 have h2:=List.all_eq_true.1 h1 k hk3
 rw [Bool.and_eq_true,List.all_eq_true] at h2
 exact ⟨by simpa using h2.1,fun l hl hx=>by simpa using h2.2 l (mem_allN hl hx)⟩
end Go.Proofs
set_option linter.unusedSimpArgs false
set_option linter.unusedVariables false
namespace Go.Proofs
open Go Go.TL
theorem colsE_of {s:Sch}:∀ {n:Nat},(∀ i,i < n→colE s i = 0)→colsE s n = 0
 | 0,_=>rfl
 | n + 1,h=>by
   rw [colsE,colsE_of fun i hi=>h i (by omega),if_neg (by simp)]
   exact h n (by omega)
theorem colE_meas {s:Sch} {i:Nat} (h1:nameB (colAt s i).name = true) (h2:((s.cols.take i).any fun x=>eqB x.name (colAt s i).name) = false) (h3:(colAt s i).kind = 3) (h4:(colAt s i).list = 0) (h5:measE (colAt s i) = 0):colE s i = 0:=by
 rw [colE,if_neg (by rw [h1];simp),if_neg (by rw [h2];simp),if_neg (by rw [h3];simp [inB]),if_neg (by rw [h3];simp),if_neg (by rw [h5];simp),if_neg (by rw [h3,h4];simp)]
theorem colE_code {s:Sch} {i:Nat} (h1:nameB (colAt s i).name = true) (h2:((s.cols.take i).any fun x=>eqB x.name (colAt s i).name) = false) (h3:(colAt s i).kind = 2) (h4:inB (colAt s i).list 0 (s.lists.length - 1) = true)
 (h5:(colAt s i).low = 0∧(colAt s i).high = 0∧(colAt s i).widths = []∧(colAt s i).opt = false):colE s i = 0:=by
 rw [colE,if_neg (by rw [h1];simp),if_neg (by rw [h2];simp),if_neg (by rw [h3];simp [inB]),if_neg (by rw [h4];simp),if_neg (by rw [h3];simp),if_neg (by rw [h3,h5.1,h5.2.1,h5.2.2.1,h5.2.2.2];simp)]
theorem colE_id {s:Sch} (h1:nameB (colAt s 0).name = true) (h3:(colAt s 0).kind = 1) (h5:(colAt s 0).list = 0∧(colAt s 0).low = 0∧(colAt s 0).high = 0∧(colAt s 0).widths = []∧(colAt s 0).opt = false):colE s 0 = 0:=by
 rw [colE,if_neg (by rw [h1];simp),if_neg (by simp),if_neg (by rw [h3];simp [inB]),if_neg (by rw [h3];simp),if_neg (by rw [h3];simp),if_neg (by rw [h3,h5.1,h5.2.1,h5.2.2.1,h5.2.2.2.1,h5.2.2.2.2];simp)]
def whoC:Col:=⟨⟨#[119,104,111]⟩,1,0,0,0,[],false⟩
def sexC:Col:=⟨⟨#[115,101,120]⟩,2,0,0,0,[],false⟩
def jobC:Col:=⟨⟨#[106,111,98]⟩,2,1,0,0,[],false⟩
def wTab:List (List Int):=[[1],[1,5],[1,5,20],[1,2,4,12]]
structure DrM (n:Nat) (c:Col):Prop where
 nm:c.name = ⟨#[109,dgt n]⟩
 kind:c.kind = 3
 list:c.list = 0
 low : -4≤c.low∧c.low≤2
 high:c.low≤c.high∧c.high≤c.low + 44
 wid:c.widths∈wTab
theorem DrM.measE {n:Nat} {c:Col} (h:DrM n c):measE c = 0:=by
 have hl:=h.low
 have hh:=h.high
 have hw:=h.wid
 have h1:inB c.low (-1000000) 1000000 = true:=by simp only [inB,Bool.and_eq_true,decide_eq_true_eq];omega
 have h2:inB c.high (-1000000) 1000000 = true:=by simp only [inB,Bool.and_eq_true,decide_eq_true_eq];omega
 have h3:1≤c.widths.length∧c.widths.length≤4∧wdAll c.widths = true:=by
  simp only [wTab,List.mem_cons,List.not_mem_nil,or_false] at hw
  rcases hw with hw | hw | hw | hw <;> rw [hw] <;> decide
 rw [_root_.Go.Proofs.measE,if_neg (by rw [h1,h2];simp;omega),if_neg (by omega),if_neg (by rw [h3.2.2];simp)]
structure DrS (s:Sch):Prop where
 ls:∃ a b,s.lists = [a,b]∧DrL nmOne a∧DrL nmTwo b
 cs:∃ ms,(s.cols = whoC :: sexC :: ms∧(∀ i (h:i < ms.length),DrM (2 + i) ms[i])∨s.cols = whoC :: sexC :: jobC :: ms∧∀ i (h:i < ms.length),DrM (3 + i) ms[i])∧1≤ms.length∧ms.length≤3
theorem nm_ok:∀ n:Nat,n < 10→nameB ⟨#[109,dgt n]⟩ = true:=by
 have:∀ n:Fin 10,nameB ⟨#[109,dgt n.1]⟩ = true:=by decide +kernel
 exact fun n h=>this ⟨n,h⟩
theorem nm_ne:∀ i j:Nat,i < 10→j < 10→i≠j→eqB ⟨#[109,dgt i]⟩ ⟨#[109,dgt j]⟩ = false:=by
 have:∀ i j:Fin 10,i.1≠j.1→eqB ⟨#[109,dgt i.1]⟩ ⟨#[109,dgt j.1]⟩ = false:=by decide +kernel
 exact fun i j hi hj h=>this ⟨i,hi⟩ ⟨j,hj⟩ h
theorem nm_fix:∀ j:Nat,j < 10→eqB whoC.name ⟨#[109,dgt j]⟩ = false∧eqB sexC.name ⟨#[109,dgt j]⟩ = false∧eqB jobC.name ⟨#[109,dgt j]⟩ = false:=by
 have:∀ j:Fin 10,eqB whoC.name ⟨#[109,dgt j.1]⟩ = false∧eqB sexC.name ⟨#[109,dgt j.1]⟩ = false∧eqB jobC.name ⟨#[109,dgt j.1]⟩ = false:=by decide +kernel
 exact fun j hj=>this ⟨j,hj⟩
theorem lsts_ok {s:Sch} {a b:CodL} (h:s.lists = [a,b]) (ha:DrL nmOne a) (hb:DrL nmTwo b):lstsE s s.lists.length = 0:=by
 have e1:lstsE s 1 = 0:=by
  rw [lstsE,lstsE,if_neg (by simp),h]
  show (if lstE a≠0 then lstE a else _) = 0
  rw [if_neg (by rw [ha.ok];simp)]
  rfl
 rw [h]
 show lstsE s 2 = 0
 rw [lstsE,e1,if_neg (by simp),h]
 show (if lstE b≠0 then lstE b else if ([a].any fun x=>eqB x.name b.name) = true then (10:Int) else 0) = 0
 rw [if_neg (by rw [hb.ok];simp),if_neg]
 simp only [List.any_cons,List.any_nil,Bool.or_false,ha.nm,hb.nm]
 rw [show eqB nmOne nmTwo = false by decide +kernel]
 simp
theorem fix_nm:nameB whoC.name = true∧nameB sexC.name = true∧nameB jobC.name = true∧eqB whoC.name sexC.name = false∧eqB whoC.name jobC.name = false∧eqB sexC.name jobC.name = false∧eqB nmOne nmTwo = false:=by decide +kernel
theorem cols_ok {s:Sch} {pre ms:List Col} (hl:s.lists.length = 2) (hc:s.cols = pre ++ ms) (hp:pre = [whoC,sexC]∨pre = [whoC,sexC,jobC]) (hm:∀ i (h:i < ms.length),DrM (pre.length + i) ms[i]) (hn:ms.length≤3):colsE s s.cols.length = 0:=by
 refine colsE_of fun i hi=>?_
 by_cases h:i < pre.length
 ·have ha:colAt s i = pre[i]:=by
   rw [colAt,hc,List.getD_eq_getElem?_getD,List.getElem?_append_left h,List.getElem?_eq_getElem h];rfl
  have ht:s.cols.take i = pre.take i:=by rw [hc,List.take_append_of_le_length (by omega)]
  rcases hp with hp | hp
  ·subst hp
   have h2:i = 0∨i = 1:=by simp at h;omega
   rcases h2 with h2 | h2 <;> subst h2
   ·exact colE_id (by rw [ha];exact fix_nm.1) (by rw [ha];rfl) (by rw [ha];exact ⟨rfl,rfl,rfl,rfl,rfl⟩)
   ·exact colE_code (by rw [ha];exact fix_nm.2.1) (by rw [ha,ht];show (eqB whoC.name sexC.name || false) = false;rw [fix_nm.2.2.2.1];rfl) (by rw [ha];rfl) (by rw [ha,hl];rfl) (by rw [ha];exact ⟨rfl,rfl,rfl,rfl⟩)
  ·subst hp
   have h2:i = 0∨i = 1∨i = 2:=by simp at h;omega
   rcases h2 with h2 | h2 | h2 <;> subst h2
   ·exact colE_id (by rw [ha];exact fix_nm.1) (by rw [ha];rfl) (by rw [ha];exact ⟨rfl,rfl,rfl,rfl,rfl⟩)
   ·exact colE_code (by rw [ha];exact fix_nm.2.1) (by rw [ha,ht];show (eqB whoC.name sexC.name || false) = false;rw [fix_nm.2.2.2.1];rfl) (by rw [ha];rfl) (by rw [ha,hl];rfl) (by rw [ha];exact ⟨rfl,rfl,rfl,rfl⟩)
   ·exact colE_code (by rw [ha];exact fix_nm.2.2.1) (by rw [ha,ht];show (eqB whoC.name jobC.name || (eqB sexC.name jobC.name || false)) = false;rw [fix_nm.2.2.2.2.1,fix_nm.2.2.2.2.2.1];rfl) (by rw [ha];rfl) (by rw [ha,hl];rfl) (by rw [ha];exact ⟨rfl,rfl,rfl,rfl⟩)
 ·have hi2:i - pre.length < ms.length:=by rw [hc,List.length_append] at hi;omega
  have hpl:pre.length≤3:=by rcases hp with hp | hp <;> subst hp <;> simp
  have ha:colAt s i = ms[i - pre.length]:=by
   rw [colAt,hc,List.getD_eq_getElem?_getD,List.getElem?_append_right (by omega),List.getElem?_eq_getElem hi2];rfl
  have d:=hm _ hi2
  rw [show pre.length + (i - pre.length) = i by omega] at d
  refine colE_meas (by rw [ha,d.nm];exact nm_ok i (by omega)) ?_ (by rw [ha];exact d.kind) (by rw [ha];exact d.list) (by rw [ha];exact d.measE)
  rw [ha,d.nm,hc,List.any_eq_false]
  intro x hx
  rw [List.take_append] at hx
  rcases List.mem_append.1 hx with hx | hx
  ·have hx:=List.mem_of_mem_take hx
   have hf:=nm_fix i (by omega)
   have:x = whoC∨x = sexC∨x = jobC:=by
    rcases hp with hp | hp <;> subst hp <;> simp at hx <;> rcases hx with h | h | h <;> simp [h]
   rcases this with h | h | h <;> subst h <;> simp [hf.1,hf.2.1,hf.2.2]
  ·obtain ⟨j,hj,rfl⟩:=List.mem_take_iff_getElem.1 hx
   have dj:=hm j (by omega)
   rw [dj.nm,nm_ne (pre.length + j) i (by omega) (by omega) (by omega)]
   simp
theorem DrS.ok {s:Sch} (h:DrS s):schE s = 0:=by
 obtain ⟨a,b,hl,ha,hb⟩:=h.ls
 obtain ⟨ms,hc,hm1,hm3⟩:=h.cs
 have h2:s.lists.length = 2:=by rw [hl];rfl
 have key:∀ pre:List Col,(pre = [whoC,sexC]∨pre = [whoC,sexC,jobC])→s.cols = pre ++ ms→(∀ i (h:i < ms.length),DrM (pre.length + i) ms[i])→schE s = 0:=by
  intro pre hp hc hd
  have hpl:2≤pre.length∧pre.length≤3:=by rcases hp with hp | hp <;> subst hp <;> simp
  have h0:(colAt s 0).kind = 1:=by
   rw [colAt,hc]
   rcases hp with hp | hp <;> subst hp <;> rfl
  rw [schE,if_neg (by rw [h2,hc,List.length_append];omega),if_neg (by rw [lsts_ok hl ha hb];simp),if_neg (by rw [hc,List.length_append];omega)]
  exact cols_ok h2 hc hp hd hm3
 rcases hc with ⟨hc,hd⟩ | ⟨hc,hd⟩
 ·exact key [whoC,sexC] (.inl rfl) hc hd
 ·exact key [whoC,sexC,jobC] (.inr rfl) hc hd
end Go.Proofs
set_option linter.unusedSimpArgs false
set_option linter.unusedVariables false
namespace Go.Proofs
open Go Go.TL
theorem atL_mem {l:CodL} (h:lstE l = 0) {lev v:Int}:v∈atL l lev↔∃ i:Nat,i < l.codes.length∧(dep l.codes i:Int) = lev∧v = (i:Int):=by
 rw [atL,if_neg (by rw [h];simp)]
 simp only [List.mem_map,List.mem_filter,List.mem_range,beq_iff_eq]
 constructor
 ·rintro ⟨i,⟨h1,h2⟩,rfl⟩;exact ⟨i,h1,h2,rfl⟩
 ·rintro ⟨i,h1,h2,rfl⟩;exact ⟨i,⟨h1,h2⟩,rfl⟩
theorem lvlsL_eq {l:CodL} (h:lstE l = 0):lvlsL l - 1 = (dep l.codes (l.codes.length - 1):Int):=by
 rw [lvlsL,if_neg (by rw [h];simp)]
 omega
theorem leaves_ne {l:CodL} (h:lstE l = 0):0 < (atL l (lvlsL l - 1)).length:=by
 obtain ⟨_,h1,_⟩:=lstE_par h
 have:((l.codes.length - 1:Nat):Int)∈atL l (lvlsL l - 1):=(atL_mem h).2 ⟨l.codes.length - 1,by omega,(lvlsL_eq h).symm,rfl⟩
 exact List.length_pos_of_mem this
theorem leaf_holds {s:Sch} {i:Nat} (hk:(colAt s i).kind = 2) (hl:lstE (cdlAt s i) = 0) {v:Int} (hv:v∈leavesL s i):holdsB s i v = true:=by
 obtain ⟨j,h1,h2,rfl⟩:=(atL_mem hl).1 hv
 rw [holdsB,if_neg (by rw [hk];decide),if_pos hk,Bool.and_eq_true]
 refine ⟨by simp only [inB,Bool.and_eq_true,decide_eq_true_eq];omega,?_⟩
 rw [beq_iff_eq,lvlC,if_neg (by rw [hl];omega),Int.toNat_natCast,h2]
theorem rowE_of {s:Sch} {row:List Int} (hs:schE s = 0) (hl:row.length = s.cols.length) (h:∀ i,i < row.length→holdsB s i (row.getD i 0) = true):rowE s row = 0:=by
 rw [rowE,if_neg (by rw [hs];simp),if_neg (by rw [hl];simp),if_neg]
 rw [Bool.not_eq_false,List.all_eq_true]
 intro i hi
 exact h i (List.mem_range.1 hi)
theorem rowE_ok {s:Sch} {row:List Int} (h:rowE s row = 0):schE s = 0∧row.length = s.cols.length∧∀ i,i < row.length→holdsB s i (row.getD i 0) = true:=by
 unfold rowE at h
 split at h
 ·rename_i h1;exact absurd h h1
 ·split at h
  ·cases h
  ·split at h
   ·cases h
   ·rename_i h1 h2 h3
    rw [Bool.not_eq_false,List.all_eq_true] at h3
    exact ⟨Classical.byContradiction h1,by omega,fun i hi=>h3 i (List.mem_range.2 hi)⟩
theorem colsE_all {s:Sch}:∀ {n:Nat},colsE s n = 0→∀ i,i < n→colE s i = 0
 | 0,_,i,h=>by omega
 | n + 1,h,i,hi=>by
   rw [colsE] at h
   split at h
   ·rename_i h2;exact absurd h h2
   ·rename_i h2
    by_cases e:i = n
    ·rw [e];exact h
    ·exact colsE_all (Classical.byContradiction h2) i (by omega)
theorem lstsE_all {s:Sch}:∀ {n:Nat},lstsE s n = 0→∀ i,i < n→lstE (s.lists.getD i default) = 0
 | 0,_,i,h=>by omega
 | n + 1,h,i,hi=>by
   rw [lstsE] at h
   split at h
   ·rename_i h2;exact absurd h h2
   ·rename_i h2
    split at h
    ·rename_i h3;exact absurd h h3
    ·rename_i h3
     by_cases e:i = n
     ·rw [e];exact Classical.byContradiction h3
     ·exact lstsE_all (Classical.byContradiction h2) i (by omega)
structure SchOk (s:Sch):Prop where
 nl:s.lists.length≤6
 nc:1≤s.cols.length∧s.cols.length≤8
 ls:∀ i,i < s.lists.length→lstE (s.lists.getD i default) = 0
 c0:(colAt s 0).kind = 1
 cs:∀ i,i < s.cols.length→colE s i = 0
theorem schE_ok {s:Sch} (h:schE s = 0):SchOk s:=by
 unfold schE at h
 split at h
 ·cases h
 ·split at h
  ·rename_i h2;exact absurd h h2
  ·split at h
   ·cases h
   ·rename_i h1 h2 h3
    refine ⟨by omega,by omega,lstsE_all (Classical.byContradiction h2),?_,colsE_all h⟩
    exact Classical.byContradiction fun e=>h3 (.inr e)
theorem colE_kind {s:Sch} {i:Nat} (h:colE s i = 0):1≤(colAt s i).kind∧(colAt s i).kind≤3∧(0 < i→(colAt s i).kind≠1)∧((colAt s i).kind = 2→0≤(colAt s i).list∧(colAt s i).list < s.lists.length)∧((colAt s i).kind = 3→measE (colAt s i) = 0):=by
 unfold colE at h
 split at h
 ·cases h
 ·split at h
  ·cases h
  ·split at h
   ·cases h
   ·split at h
    ·cases h
    ·rename_i h1 h2 h3 h4
     have hk:inB (colAt s i).kind 1 3 = true:=by
      cases e:inB (colAt s i).kind 1 3 with
      | true=>rfl
      | false=>exact absurd (.inl e) h3
     simp only [inB,Bool.and_eq_true,decide_eq_true_eq] at hk
     refine ⟨hk.1,hk.2,fun h0 e=>h3 (.inr ⟨h0,e⟩),fun e=>?_,fun e=>?_⟩
     ·have:inB (colAt s i).list 0 (s.lists.length - 1) = true:=by
       cases e2:inB (colAt s i).list 0 (s.lists.length - 1) with
       | true=>rfl
       | false=>exact absurd ⟨e,e2⟩ h4
      simp only [inB,Bool.and_eq_true,decide_eq_true_eq] at this
      omega
     ·split at h
      ·rename_i h5;exact absurd h h5.2
      ·rename_i h5
       exact Classical.byContradiction fun e2=>h5 ⟨e,e2⟩
theorem SchOk.cdl {s:Sch} (h:SchOk s) {i:Nat} (hi:i < s.cols.length) (hk:(colAt s i).kind = 2):(colAt s i).list.toNat < s.lists.length∧lstE (cdlAt s i) = 0:=by
 have h1:=(colE_kind (h.cs i hi)).2.2.2.1 hk
 exact ⟨by omega,h.ls _ (by omega)⟩
end Go.Proofs
set_option linter.unusedSimpArgs false
set_option linter.unusedVariables false
namespace Go.Proofs
open Go Go.TL
theorem SchOk.sm {s:Sch} (h:SchOk s):SchSm s:=by
 have h1:=h.nl
 have h2:=h.nc
 refine ⟨by omega,by omega,fun l hl=>?_⟩
 obtain ⟨i,hi,rfl⟩:=List.getElem_of_mem hl
 have h3:=h.ls i hi
 rw [getD_get hi] at h3
 have:=(lstE_par h3).2.2
 omega
theorem lvls_le {l:CodL} : -1≤lvlsL l∧lvlsL l≤60:=by
 unfold lvlsL
 split
 ·omega
 ·rename_i h
  obtain ⟨hp,h1,h2⟩:=lstE_par (Classical.byContradiction h)
  have:=dep_le hp (l.codes.length - 1) (by omega)
  omega
theorem rowE_bad {s:Sch} {row:List Int} {i:Nat} (h1:schE s = 0) (h2:row.length = s.cols.length) (hi:i < row.length) (h:holdsB s i row[i] = false):rowE s row = 9:=by
 rw [rowE,if_neg (by rw [h1];simp),if_neg (by omega),if_pos]
 exact List.all_eq_false.2 ⟨i,List.mem_range.2 hi,by rw [getD_get hi,h];simp⟩
end Go.Proofs
set_option linter.unusedSimpArgs false
set_option linter.unusedVariables false
namespace Go.Proofs
open Go Go.TL
set_option maxRecDepth 4000
set_option maxHeartbeats 8000000
theorem lvs_leaf {cs:List Cod}:∀ {n:Nat} {v:Int},lvs cs n = some v→∀ j,j < n→leafC cs j = true→(dep cs j:Int) = v
 | 0,_,_,j,h,_=>by omega
 | n + 1,v,h,j,hj,hl=>by
   rw [lvs_succ] at h
   cases e:lvs cs n with
   | none=>rw [e] at h;cases h
   | some w=>
     rw [e] at h
     have ih:=fun k hk h2=>lvs_leaf e k hk h2
     unfold lvS at h
     dsimp only at h
     split at h
     ·split at h
      ·cases h
      ·rename_i h2
       have hv:(dep cs n:Int) = v:=by simpa using h
       by_cases e2:j = n
       ·rw [e2];exact hv
       ·have:=ih j (by omega) hl
        omega
     ·rename_i h2
      have hv:w = v:=by simpa using h
      by_cases e2:j = n
      ·rw [e2] at hl;exact absurd hl h2
      ·have:=ih j (by omega) hl
       omega
theorem leaf_iff {cs:List Cod} {c:Nat}:leafC cs c = true↔∀ i,i < cs.length→parC cs i≠c:=by
 unfold leafC
 rw [Bool.not_eq_true',List.any_eq_false]
 constructor
 ·intro h i hi e
  have:=h cs[i] (List.getElem_mem hi)
  rw [parC,cdAt,getD_get hi] at e
  simp [e] at this
 ·intro h x hx
  obtain ⟨i,hi,rfl⟩:=List.getElem_of_mem hx
  have:=h i hi
  rw [parC,cdAt,getD_get hi] at this
  simpa using this
theorem lstE_lvs {l:CodL} (h:lstE l = 0):∃ v,lvs l.codes l.codes.length = some v:=by
 unfold lstE at h
 split at h
 ·cases h
 ·split at h
  ·cases h
  ·split at h
   ·cases h
   ·split at h
    ·rename_i h2;exact absurd h h2
    ·split at h
     ·cases h
     ·rename_i v e;exact ⟨v,e⟩
theorem leaf_dep {l:CodL} (h:lstE l = 0) {c:Nat} (hc:c < l.codes.length):leafC l.codes c = true↔(dep l.codes c:Int) = lvlsL l - 1:=by
 obtain ⟨hp,h1,h2⟩:=lstE_par h
 obtain ⟨v,hv⟩:=lstE_lvs h
 have hlast:leafC l.codes (l.codes.length - 1) = true:=leaf_iff.2 fun i hi e=>by
  have:=(hp i hi).2
  omega
 have hlv:=lvs_leaf hv (l.codes.length - 1) (by omega) hlast
 have hL:lvlsL l - 1 = v:=by rw [lvlsL,if_neg (by rw [h];simp)];omega
 have hall:∀ k c,l.codes.length - c = k→c < l.codes.length→(dep l.codes c:Int)≤v∧(leafC l.codes c = false→(dep l.codes c:Int) < v):=by
  intro k
  induction k using Nat.strongRecOn with
  | _ k ih=>
    intro c hk hc
    cases hl:leafC l.codes c with
    | true=>
      have:=lvs_leaf hv c hc hl
      exact ⟨by omega,fun e=>by cases e⟩
    | false=>
      have hn:¬ ∀ i,i < l.codes.length→parC l.codes i≠c:=fun k=>by rw [leaf_iff.2 k] at hl;cases hl
      simp only [Classical.not_forall] at hn
      obtain ⟨i,hi,hn⟩:=hn
      have hpc:parC l.codes i = c:=Classical.byContradiction hn
      have h3:=hp i hi
      have h4:=dep_kid hp hi (by omega)
      rw [hpc,Int.toNat_natCast] at h4
      have h5:=ih (l.codes.length - i) (by omega) i rfl hi
      have:=h5.1
      exact ⟨by omega,fun _=>by omega⟩
 have:=hall _ c rfl hc
 rw [hL]
 cases hl:leafC l.codes c with
 | true=>exact ⟨fun _=>lvs_leaf hv c hc hl,fun _=>rfl⟩
 | false=>
   have:=this.2 hl
   exact ⟨(by intro e;cases e),fun e=>by omega⟩
theorem c_slices_IndexFunc_Code (p:Cod→Bool) (f:FuncId) (caps:List T) (hcap:imL caps = true) (l:List Cod) (hf:∀ y∈l,Spc Tryz.prog f (codT y :: caps) [] (vB (p y)) []) (hl:l.length < 4611686018427387904) :
 Spc Tryz.prog F_slices_IndexFunc_Code [.sl 2 (l.map codT),.clo f caps] [] (vI (idxI p l)) []:=by
 refine spec_of_ir fn_slices_IndexFunc_Code mixm (by simp) fun e _ hst=>W_start ?_
 unfold ir_slices_IndexFunc_Code
 refine sW ?_
 refine W_loopF mixm (α:=Nat) [8] (fun i=>i≤l.length∧((l.take i).any p = false)) (fun i=>[(8,vI i)]) (fun i=>[]) (fun i=>l.length - i) 0 ⟨by omega,?_⟩ ?_ fun i hi=>?_
 ·simp
 ·exact .oA [] []
 simp only [tZ,↓un_u,simprocAttr,decide_eq_true_eq,decide_eq_false_iff_not]
 refine ⟨fun h=>?_,fun h=>?_⟩
 ·have hi2:i < l.length:=by omega
  have hwi:=i64_succ (i:=i) (by omega)
  simp only [tZ,↓un_u,simprocAttr,Int.toNat_natCast,getD_mapT hi2,hwi,cells_v]
  refine ⟨by omega,?_⟩
  refine C1.im (hf l[i] (List.getElem_mem hi2)) (imAL_cons rfl hcap) rfl ?_
  refine sW ?_
  refine ⟨fun h3=>?_,fun h3=>⟨i + 1,⟨by omega,any_snoc hi2 hi.2 h3⟩,by omega,?_⟩⟩
  ·rw [idxI,if_pos (any_at hi2 h3),findIdx_at hi2 hi.2 h3]
   exact .imR rfl rfl
  ·exact .oA [] []
 ·have h2:i = l.length:=by omega
  have h3:=hi.2
  rw [h2,List.take_length] at h3
  rw [idxI,if_neg (by rw [h3];simp)]
  exact .imR rfl rfl
theorem c_slices_ContainsFunc_Code (p:Cod→Bool) (f:FuncId) (caps:List T) (hcap:imL caps = true) (l:List Cod) (hf:∀ y∈l,Spc Tryz.prog f (codT y :: caps) [] (vB (p y)) []) (hl:l.length < 4611686018427387904) :
 Spc Tryz.prog F_slices_ContainsFunc_Code [.sl 2 (l.map codT),.clo f caps] [] (vB (l.any p)) []:=by
 refine spec_of_ir fn_slices_ContainsFunc_Code mixm (by simp) fun e _ hst=>W_start ?_
 unfold ir_slices_ContainsFunc_Code
 refine sW ?_
 refine C1.im (c_slices_IndexFunc_Code p f caps hcap l hf hl) (imAL_clo rfl hcap) rfl ?_
 refine sW ?_
 rw [show decide (idxI p l≥0) = l.any p from idxI_ge p l]
 exact .imR rfl rfl
theorem c_schema_fits_1 (x:Cod) (v:Int):Spc Tryz.prog F_schema_fits_1 [codT x,.ip [vI v]] [] (vB (x.par == v)) []:=by
 refine spec_of_ir fn_schema_fits_1 mixm (by simp) fun e _ hst=>W_start ?_
 unfold ir_schema_fits_1
 refine sW ?_
 exact .oA [] []
theorem fits_code {l:CodL} (h:lstE l = 0) (v:Int):(decide (0≤v) && decide (v < l.codes.length) && !(l.codes.any fun x=>x.par == v)) = (inB v 0 (l.codes.length - 1) && (lvlC l v == lvlsL l - 1)):=by
 unfold inB
 by_cases h0:0≤v∧v < l.codes.length
 ·obtain ⟨c,rfl⟩:=Int.eq_ofNat_of_zero_le h0.1
  have hc:c < l.codes.length:=by omega
  have h1:lvlC l c = dep l.codes c:=by rw [lvlC,if_neg (by rw [h];simp;omega),Int.toNat_natCast]
  rw [decide_eq_true h0.1,decide_eq_true h0.2,decide_eq_true (show (c:Int)≤(l.codes.length:Int) - 1 by omega),h1]
  simp only [Bool.true_and]
  rw [Bool.eq_iff_iff,beq_iff_eq,← leaf_dep h hc]
  rfl
 ·by_cases h1:0≤v
  ·rw [decide_eq_true h1,decide_eq_false (show ¬ v < l.codes.length by omega),decide_eq_false (show ¬ v≤(l.codes.length:Int) - 1 by omega)]
   rfl
  ·rw [decide_eq_false h1]
   rfl
theorem c_schema_fits (s:Sch) (h:SchOk s) (i:Nat) (hi:i < s.cols.length) (v:Int):Spc Tryz.prog F_schema_fits [schT s,colT s.cols[i],vI v] [] (vB (holdsB s i v)) []:=by
 have hat:colAt s i = s.cols[i]:=by rw [colAt,getD_get hi]
 have hk:=colE_kind (h.cs i hi)
 have hcd:=fun e=>h.cdl hi e
 have hE:holdsB s i v = if s.cols[i].kind = 1 then inB v 1 1048575
  else if s.cols[i].kind = 2 then inB v 0 ((cdlAt s i).codes.length - 1) && (lvlC (cdlAt s i) v == lvlsL (cdlAt s i) - 1)
  else (s.cols[i].opt && (v == missI)) || inB v s.cols[i].low s.cols[i].high:=by rw [holdsB,hat]
 have hcl:cdlAt s i = s.lists.getD s.cols[i].list.toNat default:=by rw [cdlAt,hat]
 rw [hat] at hk hcd
 rw [hE]
 rw [hcl] at hcd ⊢
 generalize s.cols[i] = c at hk hcd ⊢
 refine spec_of_ir fn_schema_fits mixm (by simp) fun e _ hst=>W_start ?_
 unfold ir_schema_fits
 refine sW ?_
 simp only [tZ,↓un_u,simprocAttr,beq_iff_eq,beq_eq_false_iff_ne]
 refine ⟨fun h1=>?_,fun h1=>⟨fun h2=>?_,fun h2=>?_⟩⟩
 ·rw [if_pos h1,show inB v 1 1048575 = (decide (1≤v) && decide (v≤1048575)) from rfl]
  exact .oA [] []
 ·obtain ⟨d1,d2⟩:=hcd h2
  obtain ⟨d3,d4⟩:=hk.2.2.2.1 h2
  have hgl:s.lists.getD c.list.toNat default = s.lists[c.list.toNat]:=getD_get d1
  rw [if_neg h1,if_pos h2]
  rw [hgl] at d2 ⊢
  obtain ⟨_,d5,d6⟩:=lstE_par d2
  simp only [tZ,↓un_u,simprocAttr,getD_mapT d1]
  generalize s.lists[c.list.toNat] = l at d2 d5 d6 ⊢
  have hCF:=c_slices_ContainsFunc_Code (fun x=>x.par == v) F_schema_fits_1 [.ip [vI v]] rfl l.codes (fun x _=>c_schema_fits_1 x v) (by omega)
  refine ⟨by omega,?_⟩
  refine C2.lend [4104] (fun _=>hCF) (fun _=>?_) (by rfl) (by rfl) ?_
  ·all_goals (try simp only [tL,simprocAttr,List.map_append,List.map_cons,List.map_nil,List.cons_append,List.nil_append])
   all_goals (try (repeat' (first | exact ltXs_nil | (apply ltXs_map;intro _;exact ⟨rfl,rfl⟩) | (apply imXs_map;intro _;exact ⟨rfl,rfl⟩) | with_reducible apply imXs_append | with_reducible refine imXs_cons ⟨rfl,rfl⟩ ?_ | exact imXs_nil | with_reducible apply ltXs_append | with_reducible refine ltXs_cons ⟨rfl,rfl,?_⟩ ?_ | with_reducible apply And.intro | exact ltCs_im rfl | exact ltCs_im (by assumption) | (refine ⟨⟨?_,rfl,?_,rfl,?_⟩,trivial⟩ <;> first | (simp;done) | (apply imXs_map;intro _;exact ⟨rfl,rfl⟩)) | trivial | rfl | (rw [i64_succ (by omega)]) | omega)))
   simp only [ltP]
   exact ⟨rfl,by decide,rfl,imXs_cons ⟨rfl,rfl⟩ imXs_nil⟩
  refine sW ?_
  rw [← fits_code d2 v]
  exact .oA [] []
 ·rw [if_neg h1,if_neg h2,Bool.or_comm,show inB v c.low c.high = (decide (c.low≤v) && decide (v≤c.high)) from rfl]
  rw [show (c.opt && v == missI) = (c.opt && v == -1099511627776) from rfl]
  exact .oA [] []
theorem c_schema_Fits (s:Sch) (h0:schE s = 0) (row:List Int) (hr:row.length < 4611686018427387904):Spc Tryz.prog F_schema_Fits [schT s,vIs row] [] (vB (rowE s row == 0)) []:=by
 have hok:=schE_ok h0
 have hnc:=hok.nc
 refine spec_of_ir fn_schema_Fits mixm (by simp) fun e _ hst=>W_start ?_
 unfold ir_schema_Fits
 simp only [tZ,↓un_u,simprocAttr,tD,bne_iff_ne,bne_eq_false_iff_eq]
 refine ⟨fun h2=>?_,fun h2=>?_⟩
 ·have:rowE s row = 9:=by rw [rowE,if_neg (by rw [h0];simp),if_pos (by omega)]
  rw [this]
  exact .oA [] []
 refine W_loopF mixm (α:=Nat) [16] (fun i=>i≤s.cols.length∧(∀ j,j < i→holdsB s j (row.getD j 0) = true)) (fun i=>[(16,vI i)]) (fun i=>[(4096,.arr 2 [schT s] false)]) (fun i=>s.cols.length - i) 0 ⟨by omega,?_⟩ ?_ fun i hi=>?_
 ·intro j hj;omega
 ·exact .oA [(4096,some 4096)] []
 simp only [tZ,↓un_u,simprocAttr,decide_eq_true_eq,decide_eq_false_iff_not]
 refine ⟨fun h=>?_,fun h=>?_⟩
 ·have hi2:i < s.cols.length:=by omega
  have hi3:i < row.length:=by omega
  have hwi:=i64_succ (i:=i) (by omega)
  have hF:=c_schema_fits s hok i hi2 row[i]
  simp only [tZ,↓un_u,simprocAttr,Int.toNat_natCast,getD_mapT hi2,getD_mapT hi3,hwi]
  refine ⟨by omega,by omega,?_⟩
  refine C1.im hF (by rfl) (by rfl) ?_
  simp only [tZ,↓un_u,simprocAttr,Bool.not_eq_true',Bool.not_eq_false']
  refine ⟨by kernel_rfl,fun h3=>?_,fun h3=>?_⟩
  ·rw [rowE_bad h0 (by omega) hi3 h3]
   exact .oA [] []
  ·refine ⟨i + 1,⟨by omega,fun j hj=>?_⟩,by omega,?_⟩
   ·by_cases e:j = i
    ·rw [e,getD_get hi3];exact h3
    ·exact hi.2 j (by omega)
   ·exact .oA [(4096,some 4096)] []
 ·have hil:i = s.cols.length:=by omega
  rw [rowE_of h0 (by omega) (fun j hj=>hi.2 j (by omega))]
  exact .oA [] []
end Go.Proofs
set_option linter.unusedSimpArgs false
set_option linter.unusedVariables false
namespace Go.Proofs
open Go Go.TL
namespace Cnd
mutual
theorem ind' {p:Cnd→Prop} (h:∀ c,(∀ k∈c.kids,p k)→p c):∀ c,p c
 | .mk _ _ _ _ _ ks=>h _ (inds h ks)
theorem inds {p:Cnd→Prop} (h:∀ c,(∀ k∈c.kids,p k)→p c):∀ ks:List Cnd,∀ k∈ks,p k
 | [],_,hk=>absurd hk (by simp)
 | x :: r,k,hk=>by
   rcases List.mem_cons.1 hk with e | hk
   ·rw [e];exact ind' h x
   ·exact inds h r k hk
end
end Cnd
mutual
def cntC:Cnd→Int→Int
 | .mk _ _ _ _ _ ks,m=>cntCs ks m 1
def cntCs:List Cnd→Int→Int→Int
 | [],_,n=>n
 | k :: r,m,n=>if n < m then cntCs r m (n + cntC k (m - n)) else n
end
mutual
def depC:Cnd→Nat
 | .mk _ _ _ _ _ ks=>depCs ks + 1
def depCs:List Cnd→Nat
 | []=>0
 | k :: r=>max (depC k) (depCs r)
end
def isB (s:Sch) (col kind:Int):Bool:=decide (0≤col) && decide (col < s.cols.length) && ((colAt s col.toNat).kind == kind)
def arC (op:Int):Nat:=if op = 5∨op = 6 then 2 else if op = 7 then 1 else 0
def ndE (s:Sch) (c:Cnd):Int:=
 if c.op < 1∨7 < c.op then 4
 else if c.kids.length≠arC c.op∨(c.op≠2∧c.op≠3∧c.op≠4∧c.col≠0)∨(c.op≠2∧c.code≠0)∨(c.op≠3∧(c.lo≠0∨c.hi≠0)) then 11
 else if (c.op = 2∧isB s c.col 2 = false)∨(c.op = 3∧isB s c.col 3 = false)∨(c.op = 4∧(isB s c.col 3 = false∨(colAt s c.col.toNat).opt = false)) then 7
 else if c.op = 2∧(c.code < 0∨c.code≥(cdlAt s c.col.toNat).codes.length) then 6
 else if c.op = 3∧(c.lo < -1000000∨c.hi > 1000000∨c.lo > c.hi) then 2 else 0
mutual
def nodE (s:Sch):Cnd→Int
 | .mk op col code lo hi ks=>if ndE s (.mk op col code lo hi ks)≠0 then ndE s (.mk op col code lo hi ks) else nodEs s ks
def nodEs (s:Sch):List Cnd→Int
 | []=>0
 | k :: r=>if nodE s k≠0 then nodE s k else nodEs s r
end
def chkC (s:Sch) (c:Cnd):Int:=if schE s≠0 then schE s else if cntC c 41 > 40 then 1 else if depC c > 10 then 22 else nodE s c
structure NdOk (s:Sch) (c:Cnd):Prop where
 op:1≤c.op∧c.op≤7
 nk:c.kids.length = arC c.op
 under:c.op = 2→isB s c.col 2 = true∧0≤c.code∧c.code < (cdlAt s c.col.toNat).codes.length
 between:c.op = 3→isB s c.col 3 = true∧-1000000≤c.lo∧c.hi≤1000000∧c.lo≤c.hi
 miss:c.op = 4→isB s c.col 3 = true∧(colAt s c.col.toNat).opt = true
def isAt (c:Cnd):Bool:=(c.op == 2) || (c.op == 3) || (c.op == 4)
def tf (b:Bool):Int:=if b then 1 else -1
def atomI (s:Sch) (c:Cnd) (v:Int):Int:=
 if c.op = 2 then tf (underB (cdlAt s c.col.toNat) v c.code)
 else if c.op = 3 then (if v = missI then 0 else tf (decide (c.lo≤v) && decide (v≤c.hi)))
 else if c.op = 4 then tf (v == missI) else -1
def joinI (op:Int) (ks:List Int):Int:=if op = 7 then - ks.getD 0 0 else if op = 5 then min (ks.getD 0 0) (ks.getD 1 0) else if op = 6 then max (ks.getD 0 0) (ks.getD 1 0) else 1
mutual
def evC (s:Sch) (row:List Int):Cnd→Int
 | .mk op col code lo hi ks=>if isAt (.mk op col code lo hi ks) = true then atomI s (.mk op col code lo hi ks) (row.getD col.toNat 0) else joinI op (evCs s row ks)
def evCs (s:Sch) (row:List Int):List Cnd→List Int
 | []=>[]
 | k :: r=>evC s row k :: evCs s row r
end
def evalI (s:Sch) (c:Cnd) (row:List Int):Int:=if chkC s c≠0∨rowE s row≠0 then 0 else evC s row c
mutual
def atsC:Cnd→List Cnd
 | .mk op col code lo hi ks=>if isAt (.mk op col code lo hi ks) = true then [.mk op col code lo hi ks] else atsCs ks
def atsCs:List Cnd→List Cnd
 | []=>[]
 | k :: r=>atsC k ++ atsCs r
end
def pairA (n:Nat) (p:Nat→Nat→Bool):Bool:=(List.range n).all fun i=>(List.range i).all fun k=>p i k
def decP (s:Sch) (c:Cnd) (lev:Nat) (i k:Nat):Bool:=
 !((coarseI s c.col lev ((leavesL s c.col.toNat).getD i 0) == coarseI s c.col lev ((leavesL s c.col.toNat).getD k 0)) && !(atomI s c ((leavesL s c.col.toNat).getD i 0) == atomI s c ((leavesL s c.col.toNat).getD k 0)))
def decB (s:Sch) (c:Cnd) (lev:Nat):Bool:=
 if c.op = 2 then pairA (leavesL s c.col.toNat).length (decP s c lev)
 else if c.op = 4 then decide (0 < lev)
 else
  let x:=colAt s c.col.toNat
  let first:=decide (x.low < c.lo) && decide (c.lo≤x.high)
  let behind:=decide (x.low≤c.hi) && decide (c.hi < x.high)
  if lev = 0 then !x.opt && !first && !behind
  else (!first || (c.lo.tmod (widthI x lev) == 0)) && (!behind || ((c.hi + 1).tmod (widthI x lev) == 0))
def firstN (p:Nat→Bool):Nat→Nat→Nat
 | 0,n=>n
 | f + 1,n=>if p n = true then n else firstN p f (n + 1)
def decN (s:Sch) (c:Cnd):Nat:=firstN (decB s c) 64 0
def raisF (col lev:Int):List Pk×Bool→Pk→List Pk×Bool:=fun x p=>
 let y:=if p.col > col∧x.2 = false then (x.1 ++ [⟨col,lev⟩],true) else x
 if p.col = col then (y.1 ++ [⟨p.col,max p.lev lev⟩],true) else (y.1 ++ [p],y.2)
def raisP (l:List Pk) (col lev:Int):List Pk:=
 let x:=l.foldl (raisF col lev) ([],decide (lev≤0))
 if x.2 then x.1 else x.1 ++ [⟨col,lev⟩]
def needC (s:Sch) (c:Cnd):List Pk:=if chkC s c≠0 then [] else (atsC c).foldl (fun l a=>raisP l a.col (decN s a)) []
def covB (a b:List Pk):Bool:=a.all fun x=>b.any fun y=>(y.col == x.col) && decide (y.lev≥x.lev)
mutual
def sameC:Cnd→Cnd→Bool
 | .mk a1 a2 a3 a4 a5 ks,.mk b1 b2 b3 b4 b5 ls=>(a1 == b1) && (a2 == b2) && (a3 == b3) && (a4 == b4) && (a5 == b5) && sameCs ks ls
def sameCs:List Cnd→List Cnd→Bool
 | [],[]=>true
 | k :: r,l :: t=>sameC k l && sameCs r t
 | [],_ :: _=>false
 | _ :: _,[]=>false
end
end Go.Proofs
set_option linter.unusedSimpArgs false
set_option linter.unusedVariables false
namespace Go.Proofs
open Go Go.TL
def firstE (f:Nat→Int):Nat→Int
 | 0=>0
 | n + 1=>if firstE f n≠0 then firstE f n else f n
def pickE (s:Sch) (p:Pk):Int:=if schE s≠0 then schE s else if p.col < 1∨p.col≥s.cols.length then 7 else if inB p.lev 0 (finI s p.col) = false then 8 else 0
abbrev pkAt (l:List Pk) (i:Nat):Pk:=l.getD i default
def pickAE (s:Sch) (l:List Pk) (i:Nat):Int:=if pickE s (pkAt l i)≠0 then pickE s (pkAt l i) else if 0 < i∧(pkAt l i).col≤(pkAt l (i - 1)).col then 10 else 0
def picksE (s:Sch) (l:List Pk):Int:=if schE s≠0 then schE s else firstE (pickAE s l) l.length
def dimE (s:Sch) (l:List Pk) (i:Nat):Int:=if pickE s (pkAt l i)≠0 then pickE s (pkAt l i) else if isB s (pkAt l i).col 2 = false then 7 else if ((l.take i).any fun x=>x.col == (pkAt l i).col) = true then 10 else 0
def dimsE (s:Sch) (l:List Pk):Int:=if l.length < 1∨l.length > 3 then 1 else firstE (dimE s l) l.length
def termE (s:Sch) (m:Int) (l:List Int) (i:Nat):Int:=if isB s (l.getD i 0) 3 = false then 7 else if l.getD i 0 = m∨(l.take i).contains (l.getD i 0) = true then 10 else 0
def termsE (s:Sch) (m:Int) (l:List Int):Int:=if l.length < 1∨l.length > 3 then 1 else firstE (termE s m l) l.length
def partsE (s:Sch) (q:Qst):Int:=
 if q.kind = 1 then (if dimsE s q.dims≠0 then dimsE s q.dims else if q.meas≠-1∧isB s q.meas 3 = false then 7 else 0)
 else if q.kind = 2 then (if isB s q.meas 3 = false then 7 else termsE s q.meas q.terms)
 else if isB s q.meas 3 = false then 7 else if (colAt s q.meas.toNat).low < 0 then 2 else chkC s q.event
def qstE (s:Sch) (q:Qst):Int:=
 if schE s≠0 then schE s else if nameB q.name = false then 3 else if q.kind < 1∨3 < q.kind then 4
 else if chkC s q.filt≠0 then chkC s q.filt else if partsE s q≠0 then partsE s q
 else if (q.kind≠1∧0 < q.dims.length)∨(q.kind≠2∧0 < q.terms.length)∨(q.kind≠3∧sameC q.event cnd0 = false) then 11 else 0
abbrev qAt (l:List Qst) (i:Nat):Qst:=l.getD i default
def qsE (s:Sch) (l:List Qst) (i:Nat):Int:=if qstE s (qAt l i)≠0 then qstE s (qAt l i) else if ((l.take i).any fun x=>eqB x.name (qAt l i).name) = true then 10 else 0
def smpE (x:Smp):Int:=if x.of < 1∨x.of > 1000∨x.part < 1∨x.part > x.of∨x.seed < 0∨x.seed > 1099511627776 then 2 else 0
def dclE (s:Sch) (d:Dcl):Int:=
 if schE s≠0 then schE s else if nameB d.proj = false∨nameB d.src = false then 3 else if chkC s d.coh≠0 then chkC s d.coh
 else if smpE d.smp≠0 then 2 else if d.qs.length < 1∨d.qs.length > 8 then 1 else firstE (qsE s d.qs) d.qs.length
end Go.Proofs
set_option linter.unusedSimpArgs false
set_option linter.unusedVariables false
namespace Go.Proofs
open Go Go.TL
def divM (high w wo:Int):Nat→Int→Bool
 | 0,_=>true
 | k + 1,f=>if f > high then true else if f.tmod wo≠0 then false else divM high w wo k (f + w)
def divP (s:Sch) (col:Nat) (L:List Int) (other lev:Nat) (i k:Nat):Bool:=
 !(!(coarseI s col lev (L.getD i 0) == coarseI s col lev (L.getD k 0)) && (coarseI s col other (L.getD i 0) == coarseI s col other (L.getD k 0)))
def divB (s:Sch) (col other lev:Nat):Bool:=
 if lev = 0∨lev≤other then true
 else if (colAt s col).kind = 2 then pairA (leavesL s col).length (divP s col (leavesL s col) other lev)
 else
  let x:=colAt s col
  let w:=widthI x lev
  let first:=(floorI x.low w + 1) * w
  if other = 0 then !x.opt && decide (first > x.high)
  else divM x.high w (widthI x other) 2 first
def leastI (s:Sch) (col lev:Int):Int:=if inB lev 0 (finI s col) = false then -1 else firstN (fun n=>divB s col.toNat n lev.toNat) 64 0
def usesB (q:Qst) (k:Int):Bool:=(q.meas == k) || q.terms.contains k
def raisL (l m:List Pk):List Pk:=m.foldl (fun l p=>raisP l p.col p.lev) l
def needUF (s:Sch) (q:Qst):List Pk→Nat→List Pk:=fun l k=>if usesB q (k + 1) = true then raisP l (k + 1) (leastI s (k + 1) (finI s (k + 1))) else l
def needU (s:Sch) (q:Qst) (l:List Pk):List Pk:=(List.range (s.cols.length - 1)).foldl (needUF s q) l
def needQ (s:Sch) (q:Qst):List Pk:=if qstE s q≠0 then [] else
 needU s q (q.dims.foldl (fun l p=>raisP l p.col (leastI s p.col p.lev)) (if q.kind = 3 then raisL (needC s q.filt) (needC s q.event) else needC s q.filt))
def sufB (s:Sch) (q:Qst) (l:List Pk):Bool:=(qstE s q == 0) && (picksE s l == 0) && covB (needQ s q) l
def chk10 (s:Sch) (d:Dcl) (l:List Pk):Int:=if dclE s d≠0 then dclE s d else if picksE s l≠0 then picksE s l else firstE (fun i=>if sufB s (qAt d.qs i) l = true then 0 else 23) d.qs.length
end Go.Proofs
