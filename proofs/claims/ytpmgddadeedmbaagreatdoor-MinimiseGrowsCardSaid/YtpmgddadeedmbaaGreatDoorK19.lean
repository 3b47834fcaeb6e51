/- A part of the proof: trees of Go values, short forms, contracts. -/
import Derived.WalkKit
import Derived.Still
import Derived.MapKept
import GoSem.Builtin.Cap
import Derived.Laws.Externs
import GoSem.Extern.SlicesOverlaps
import Derived.Carry
import Derived.ProofKit
import Derived.OpenShut
import Derived.HandedShaped
import Derived.Lay
import Derived.LaidLaws
import Derived.MakeChecks
import Derived.SevenTiedAt
import Derived.Test.YtpmgddadeedmbaaGreatDoorChecked
import Derived.Test.YtpmgddadeedmbaaGreatDoorK18
set_option linter.unusedSimpArgs false
set_option linter.unusedVariables false
namespace Go.Proofs
open Go Go.TL
set_option maxRecDepth 4000
set_option maxHeartbeats 8000000
theorem Jb (p:CodL→Bool) (f:FuncId) (caps:List T) (hcap:imL caps = true) (l:List CodL) (hf:∀ y∈l,Spc Tryz.prog f (cdlT y :: caps) [] (vB (p y)) []) (hl:l.length < 4611686018427387904) :
 Spc Tryz.prog zM [.sl 2 (l.map cdlT),.clo f caps] [] (vI (idxI p l)) []:=by
 refine qd Zr mixm (by simp) fun e _ hst=>qg ?_
 unfold zG
 refine sW ?_
 refine qu mixm (α:=Nat) [8] (fun i=>i≤l.length∧((l.take i).any p = false)) (fun i=>[(8,vI i)]) (fun i=>[]) (fun i=>l.length - i) 0 ⟨by omega,?_⟩ ?_ fun i hi=>?_
 ·simp
 ·exact .oA [] []
 simp only [tZ,↓un_u,simprocAttr,decide_eq_true_eq,decide_eq_false_iff_not]
 refine ⟨fun h=>?_,fun h=>?_⟩
 ·have hi2:i < l.length:=by omega
  have hwi:=qh (i:=i) (by omega)
  simp only [tZ,↓un_u,simprocAttr,Int.toNat_natCast,qe hi2,hwi,qd0]
  refine ⟨by omega,?_⟩
  refine C1.im (hf l[i] (List.getElem_mem hi2)) (WZ rfl hcap) rfl ?_
  refine sW ?_
  refine ⟨fun h3=>?_,fun h3=>⟨i + 1,⟨by omega,zQ hi2 hi.2 h3⟩,by omega,?_⟩⟩
  ·rw [idxI,if_pos (qi2 hi2 h3),yQ hi2 hi.2 h3]
   exact .imR rfl rfl
  ·exact .oA [] []
 ·have h2:i = l.length:=by omega
  have h3:=hi.2
  rw [h2,List.take_length] at h3
  rw [idxI,if_neg (by rw [h3];simp)]
  exact .imR rfl rfl
theorem QE (p:CodL→Bool) (f:FuncId) (caps:List T) (hcap:imL caps = true) (l:List CodL) (hf:∀ y∈l,Spc Tryz.prog f (cdlT y :: caps) [] (vB (p y)) []) (hl:l.length < 4611686018427387904) :
 Spc Tryz.prog zr [.sl 2 (l.map cdlT),.clo f caps] [] (vB (l.any p)) []:=by
 refine qd Qh mixm (by simp) fun e _ hst=>qg ?_
 unfold zl
 refine sW ?_
 refine C1.im (Jb p f caps hcap l hf hl) (qi3 rfl hcap) rfl ?_
 refine sW ?_
 rw [show decide (idxI p l≥0) = l.any p from qd1 p l]
 exact .imR rfl rfl
theorem JR (p:Col→Bool) (f:FuncId) (caps:List T) (hcap:imL caps = true) (l:List Col) (hf:∀ y∈l,Spc Tryz.prog f (colT y :: caps) [] (vB (p y)) []) (hl:l.length < 4611686018427387904) :
 Spc Tryz.prog jk [.sl 7 (l.map colT),.clo f caps] [] (vI (idxI p l)) []:=by
 refine qd Jk mixm (by simp) fun e _ hst=>qg ?_
 unfold zW
 refine sW ?_
 refine qu mixm (α:=Nat) [8] (fun i=>i≤l.length∧((l.take i).any p = false)) (fun i=>[(8,vI i)]) (fun i=>[]) (fun i=>l.length - i) 0 ⟨by omega,?_⟩ ?_ fun i hi=>?_
 ·simp
 ·exact .oA [] []
 simp only [tZ,↓un_u,simprocAttr,decide_eq_true_eq,decide_eq_false_iff_not]
 refine ⟨fun h=>?_,fun h=>?_⟩
 ·have hi2:i < l.length:=by omega
  have hwi:=qh (i:=i) (by omega)
  simp only [tZ,↓un_u,simprocAttr,Int.toNat_natCast,qe hi2,hwi,qd0]
  refine ⟨by omega,?_⟩
  refine C1.im (hf l[i] (List.getElem_mem hi2)) (WZ rfl hcap) rfl ?_
  refine sW ?_
  refine ⟨fun h3=>?_,fun h3=>⟨i + 1,⟨by omega,zQ hi2 hi.2 h3⟩,by omega,?_⟩⟩
  ·rw [idxI,if_pos (qi2 hi2 h3),yQ hi2 hi.2 h3]
   exact .imR rfl rfl
  ·exact .oA [] []
 ·have h2:i = l.length:=by omega
  have h3:=hi.2
  rw [h2,List.take_length] at h3
  rw [idxI,if_neg (by rw [h3];simp)]
  exact .imR rfl rfl
theorem Zt (p:Col→Bool) (f:FuncId) (caps:List T) (hcap:imL caps = true) (l:List Col) (hf:∀ y∈l,Spc Tryz.prog f (colT y :: caps) [] (vB (p y)) []) (hl:l.length < 4611686018427387904) :
 Spc Tryz.prog zE [.sl 7 (l.map colT),.clo f caps] [] (vB (l.any p)) []:=by
 refine qd Zc mixm (by simp) fun e _ hst=>qg ?_
 unfold zz
 refine sW ?_
 refine C1.im (JR p f caps hcap l hf hl) (qi3 rfl hcap) rfl ?_
 refine sW ?_
 rw [show decide (idxI p l≥0) = l.any p from qd1 p l]
 exact .imR rfl rfl
theorem qx0 (x y:CodL):Spc Tryz.prog wA [cdlT x,.ip (cdlT y).cells] [] (vB (eqB x.name y.name)) []:=by
 refine qd qq5 mixm (by simp) fun e _ hst=>qg ?_
 unfold Qi
 refine sW ?_
 rw [show (x.name.toList == y.name.toList) = eqB x.name y.name from rfl]
 exact .oA [] []
theorem WH (x y:Col):Spc Tryz.prog zT [colT x,.ip (colT y).cells] [] (vB (eqB x.name y.name)) []:=by
 refine qd KZ mixm (by simp) fun e _ hst=>qg ?_
 unfold jR
 refine sW ?_
 rw [show (x.name.toList == y.name.toList) = eqB x.name y.name from rfl]
 exact .oA [] []
def unuB (c:Col):Bool:=!(((c.kind != 2) && (c.list != 0)) || ((c.kind != 3) && ((c.low != 0) || (c.high != 0) || (c.widths.length != 0) || c.opt)))
theorem Jc (c:Col):Spc Tryz.prog ZH [colT c] [] (vB (unuB c)) []:=by
 refine qd qw8 mixm (by simp) fun e _ hst=>qg ?_
 unfold Zd
 refine sW ?_
 refine ⟨fun h=>?_,fun h=>?_⟩
 ·have:unuB c = false:=by unfold unuB;rw [h];rfl
  rw [this]
  exact .oA [] []
 ·have e:((c.widths.length:Int) == 0) = (c.widths.length == 0):=by rw [Bool.eq_iff_iff,beq_iff_eq,beq_iff_eq];omega
  have:unuB c = (c.kind == 3 || c.low == 0 && c.high == 0 && ((c.widths.length:Int) == 0) && !c.opt):=by
   unfold unuB
   rw [h,e]
   simp only [Bool.false_or,bne,Bool.not_and,Bool.not_or,Bool.not_not]
  rw [this]
  exact .oA [] []
def zh2 (ws:List Int) (i:Nat):Int:=if i = 0 then 1 else ws.getD (i - 1) 0
theorem YA (c:Col):Spc Tryz.prog kz [colT c] [] (vI (measE c)) []:=by
 refine qd WD mixm (by simp) fun e _ hst=>qg ?_
 unfold ko
 refine sW ?_
 simp only [tZ,↓un_u,simprocAttr,tD,Bool.not_eq_true',Bool.not_eq_false',beq_iff_eq,beq_eq_false_iff_ne]
 have hin:∀ n:Int,inB n (-1000000) 1000000 = false↔(n < -1000000∨n > 1000000):=fun n=>by
  unfold inB
  rw [Bool.and_eq_false_iff,decide_eq_false_iff_not,decide_eq_false_iff_not]
  omega
 refine ⟨fun h=>?_,fun h=>?_⟩
 ·have k:inB c.low (-1000000) 1000000 = false∨inB c.high (-1000000) 1000000 = false∨c.low > c.high:=by
   rw [hin,hin]
   omega
  rw [measE,if_pos k]
  exact .oA [] []
 have hA:¬ (inB c.low (-1000000) 1000000 = false∨inB c.high (-1000000) 1000000 = false∨c.low > c.high):=by
  rw [hin,hin]
  omega
 refine ⟨fun h2=>?_,fun h2=>?_⟩
 ·rw [measE,if_neg hA,if_pos (by omega)]
  exact .oA [] []
 have hm:measE c = if ja4 c.widths = false then 2 else 0:=by rw [measE,if_neg hA,if_neg (by omega)]
 refine qu mixm (α:=Nat) [3,36] (fun i=>i≤c.widths.length∧(∀ j,j < i→wdOk c.widths j = true)) (fun i=>[(3,vI (zh2 c.widths i)),(36,vI i)]) (fun i=>[]) (fun i=>c.widths.length - i) 0 ⟨by omega,?_⟩ ?_ fun i hi=>?_
 ·intro j hj;omega
 ·exact .oA [] []
 have hbad:i < c.widths.length→wdOk c.widths i = false→measE c = 2:=fun h1 h2=>by
  rw [hm,if_pos]
  exact List.all_eq_false.2 ⟨i,List.mem_range.2 h1,by rw [h2];simp⟩
 have hok:wdOk c.widths i = true→∀ j,j < i + 1→wdOk c.widths j = true:=fun h1 j hj=>by
  by_cases e:j = i
  ·rw [e];exact h1
  ·exact hi.2 j (by omega)
 simp only [tZ,↓un_u,simprocAttr,decide_eq_true_eq,decide_eq_false_iff_not]
 refine ⟨fun h=>?_,fun h=>?_⟩
 ·have hi2:i < c.widths.length:=by omega
  have hwi:=qh (i:=i) (by omega)
  have hnx:zh2 c.widths (i + 1) = c.widths[i]:=by rw [zh2,if_neg (by omega),Nat.add_sub_cancel,qk hi2]
  rcases Nat.eq_zero_or_pos i with h0 | h0
  ·subst h0
   have hw0:wdOk c.widths 0 = (c.widths[0] == 1):=by rw [wdOk,if_pos rfl,qk hi2]
   have hz:((0:Nat):Int) = 0:=rfl
   rw [hz] at hwi
   simp only [tZ,↓un_u,simprocAttr,Int.toNat_natCast,hz,beq_self_eq_true,gt_iff_lt,Int.lt_irrefl,decide_false,Bool.false_and,Bool.or_false,Bool.true_and,qe hi2,bne_iff_ne,bne_eq_false_iff_eq]
   have hwz:IntKind.i64.wrap 1 = ((1:Nat):Int):=by decide
   refine ⟨by omega,fun h3=>?_,fun h3=>?_⟩
   ·rw [hbad hi2 (by rw [hw0];simpa using h3)]
    exact .oA [] []
   ·rw [hwz]
    refine ⟨1,⟨by omega,hok (by rw [hw0];simpa using h3)⟩,by omega,?_⟩
    rw [hnx]
    exact .oA [] []
  ·have e1:((i:Int) == 0) = false:=beq_eq_false_iff_ne.2 (by omega)
   have e2:decide ((i:Int) > 0) = true:=decide_eq_true (by omega)
   have hw1:wdOk c.widths i = (decide (zh2 c.widths i < c.widths[i]) && decide (c.widths[i]≤1000000) && (c.widths[i].tmod (zh2 c.widths i) == 0)):=by
    rw [wdOk,if_neg (by omega),qk hi2,zh2,if_neg (by omega)]
   have hp1:1≤zh2 c.widths i:=by
    have:=zf5 (ws:=c.widths) hi.2 (i - 1) (by omega)
    rw [zh2,if_neg (by omega)]
    exact this
   simp only [tZ,↓un_u,simprocAttr,Int.toNat_natCast,qe hi2,e1,e2,hwi,tD,bne_iff_ne,bne_eq_false_iff_eq]
   refine ⟨by omega,fun _=>by omega,fun h3=>?_,fun h3=>?_⟩
   ·rw [hbad hi2 (by rw [hw1];grind)]
    exact .oA [] []
   ·refine ⟨i + 1,⟨by omega,hok (by rw [hw1];grind)⟩,by omega,?_⟩
    rw [hnx]
    exact .oA [] []
 ·have hi2:i = c.widths.length:=by omega
  subst hi2
  rw [hm,if_neg]
  ·exact .oA [] []
  ·rw [Bool.not_eq_false]
   exact List.all_eq_true.2 fun j hj=>hi.2 j (List.mem_range.1 hj)
theorem qb0 (s:Sch) (i:Nat) (hi:i < s.cols.length) (hn:s.cols.length < 4611686018427387904) (hl:s.lists.length < 4611686018427387904):Spc Tryz.prog kY [schT s,vI i] [] (vI (colE s i)) []:=by
 have hat:qj s i = s.cols[i]:=by rw [qj,qk hi]
 have hE:colE s i = if jh s.cols[i].name = false then 3
  else if ((s.cols.take i).any fun x=>eqB x.name s.cols[i].name) = true then 10
  else if inB s.cols[i].kind 1 3 = false∨(0 < i∧s.cols[i].kind = 1) then 4
  else if s.cols[i].kind = 2∧inB s.cols[i].list 0 (s.lists.length - 1) = false then 5
  else if s.cols[i].kind = 3∧measE s.cols[i]≠0 then measE s.cols[i]
  else if (s.cols[i].kind≠2∧s.cols[i].list≠0)∨(s.cols[i].kind≠3∧(s.cols[i].low≠0∨s.cols[i].high≠0∨0 < s.cols[i].widths.length∨s.cols[i].opt = true)) then 11 else 0:=by rw [colE,hat]
 rw [hE]
 refine qd Yp mixm (by simp) fun e _ hst=>qg ?_
 unfold kE
 simp only [tZ,↓un_u,simprocAttr,Int.toNat_natCast,qe hi]
 generalize s.cols[i] = c
 refine ⟨by omega,?_⟩
 refine C1.im (wU c.name) (by rfl) (by rfl) ?_
 simp only [tZ,↓un_u,simprocAttr,Bool.not_eq_true',Bool.not_eq_false']
 refine ⟨fun h=>?_,fun h=>?_⟩
 ·rw [if_pos h]
  exact .oA [] []
 rw [if_neg (by rw [h];simp)]
 have hCF:=Zt (fun x=>eqB x.name c.name) zT [.ip (colT c).cells] rfl (s.cols.take i) (fun x _=>WH x c) (by rw [List.length_take];omega)
 refine ⟨by omega,?_⟩
 rw [WX,qC2]
 refine C1.lend [8212] hCF ?_ (by rfl) (by rfl) ?_
 ·all_goals (try simp only [tL,simprocAttr,List.map_append,List.map_cons,List.map_nil,List.cons_append,List.nil_append])
  all_goals (try (repeat' (first | exact qR | (apply zd;intro _;exact ⟨rfl,rfl⟩) | (apply qz;intro _;exact ⟨rfl,rfl⟩) | with_reducible apply qG | with_reducible refine qE ⟨rfl,rfl⟩ ?_ | exact qO | with_reducible apply qA | with_reducible refine qJ ⟨rfl,rfl,?_⟩ ?_ | with_reducible apply And.intro | exact qD rfl | exact qD (by assumption) | (refine ⟨⟨?_,rfl,?_,rfl,?_⟩,trivial⟩ <;> first | (simp;done) | (apply qz;intro _;exact ⟨rfl,rfl⟩)) | trivial | rfl | (rw [qh (by omega)]) | omega)))
  simp only [ltP]
  exact ⟨rfl,by decide,rfl,qE ⟨rfl,rfl⟩ qO⟩
 simp only [tZ,↓un_u,simprocAttr,tD,Bool.not_eq_true',Bool.not_eq_false',beq_iff_eq,beq_eq_false_iff_ne]
 refine ⟨fun h2=>?_,fun h2=>?_⟩
 ·rw [if_pos h2]
  exact .oA [] []
 rw [if_neg (by rw [h2];simp)]
 have hI:inB c.kind 1 3 = false↔¬ (1≤c.kind∧c.kind≤3):=by unfold inB;rw [Bool.and_eq_false_iff,decide_eq_false_iff_not,decide_eq_false_iff_not];omega
 have hL:inB c.list 0 (s.lists.length - 1) = false↔(c.list < 0∨(s.lists.length:Int)≤c.list):=by unfold inB;rw [Bool.and_eq_false_iff,decide_eq_false_iff_not,decide_eq_false_iff_not];omega
 have hU:unuB c = false↔((c.kind≠2∧c.list≠0)∨(c.kind≠3∧(c.low≠0∨c.high≠0∨0 < c.widths.length∨c.opt = true))):=by
  have hw0:c.widths.length≠0↔0 < c.widths.length:=by omega
  unfold unuB
  rw [Bool.not_eq_false',Bool.or_eq_true,Bool.and_eq_true,Bool.and_eq_true,bne_iff_ne,bne_iff_ne,bne_iff_ne,Bool.or_eq_true,Bool.or_eq_true,Bool.or_eq_true,bne_iff_ne,bne_iff_ne,bne_iff_ne,hw0,or_assoc,or_assoc]
 have hfin:∀ (v:Int),(unuB c = false→v = 11)→(unuB c = true→v = 0)→v = if (c.kind≠2∧c.list≠0)∨(c.kind≠3∧(c.low≠0∨c.high≠0∨0 < c.widths.length∨c.opt = true)) then 11 else 0:=fun v h11 h00=>by
  by_cases k:unuB c = false
  ·rw [if_pos (hU.1 k),h11 k]
  ·rw [if_neg (fun e=>k (hU.2 e)),h00 (by simpa using k)]
 refine ⟨fun k1=>⟨fun h3=>?_,fun h3=>?_⟩,fun k1=>⟨fun k2=>⟨fun h3=>?_,fun h3=>?_⟩,fun k2=>⟨fun k3=>?_,fun k3=>?_⟩⟩⟩
 ·rw [if_pos (.inr ⟨by omega,k1⟩)]
  exact .oA [] []
 ·rw [if_neg (by rw [hI];omega),if_neg (by omega),if_neg (by omega)]
  refine C1.im (Jc c) (by rfl) (by rfl) ?_
  simp only [tZ,↓un_u,simprocAttr,Bool.not_eq_true',Bool.not_eq_false']
  refine ⟨fun h4=>?_,fun h4=>?_⟩
  ·rw [← hfin 11 (fun _=>rfl) (fun k=>by rw [h4] at k;cases k)]
   exact .oA [] []
  ·rw [← hfin 0 (fun k=>by rw [h4] at k;cases k) (fun _=>rfl)]
   exact .oA [] []
 ·rw [if_neg (by rw [hI];omega),if_pos ⟨k2,hL.2 h3⟩]
  exact .oA [] []
 ·rw [if_neg (by rw [hI];omega),if_neg (by rw [hL];omega),if_neg (by omega)]
  refine C1.im (Jc c) (by rfl) (by rfl) ?_
  simp only [tZ,↓un_u,simprocAttr,Bool.not_eq_true',Bool.not_eq_false']
  refine ⟨fun h4=>?_,fun h4=>?_⟩
  ·rw [← hfin 11 (fun _=>rfl) (fun k=>by rw [h4] at k;cases k)]
   exact .oA [] []
  ·rw [← hfin 0 (fun k=>by rw [h4] at k;cases k) (fun _=>rfl)]
   exact .oA [] []
 ·rw [if_neg (by rw [hI];omega),if_neg (by omega)]
  refine C1.im (YA c) (by rfl) (by rfl) ?_
  simp only [tZ,↓un_u,simprocAttr,bne_iff_ne,bne_eq_false_iff_eq]
  refine ⟨fun h3=>?_,fun h3=>?_⟩
  ·rw [if_pos ⟨k3,h3⟩]
   exact .oA [] []
  rw [if_neg (by omega)]
  refine C1.im (Jc c) (by rfl) (by rfl) ?_
  simp only [tZ,↓un_u,simprocAttr,Bool.not_eq_true',Bool.not_eq_false']
  refine ⟨fun h4=>?_,fun h4=>?_⟩
  ·rw [← hfin 11 (fun _=>rfl) (fun k=>by rw [h4] at k;cases k)]
   exact .oA [] []
  ·rw [← hfin 0 (fun k=>by rw [h4] at k;cases k) (fun _=>rfl)]
   exact .oA [] []
 ·rw [if_pos (.inl (hI.2 (by omega)))]
  exact .oA [] []
theorem jY (s:Sch) (hn:s.cols.length < 4611686018427387904) (hl:s.lists.length < 4611686018427387904):Spc Tryz.prog zH [schT s] [] (vI (schE s)) []:=by
 refine qd qD1 mixm (by simp) fun e _ hst=>qg ?_
 unfold ZL
 refine sD ?_
 refine ⟨fun h=>?_,fun h=>?_⟩
 ·rw [schE,if_pos (by omega)]
  exact .oA [] []
 have hE1:wV s s.lists.length≠0→schE s = wV s s.lists.length:=fun k=>by rw [schE,if_neg (by omega),if_pos k]
 refine qu mixm (α:=Nat) [21] (fun i=>i≤s.lists.length∧wV s i = 0) (fun i=>[(21,vI i)]) (fun i=>[(4096,.arr 2 [schT s] false)]) (fun i=>s.lists.length - i) 0 ⟨by omega,rfl⟩ ?_ fun i hi=>?_
 ·exact .oA [(4096,some 4096)] []
 obtain ⟨i1,i2⟩:=hi
 refine sD ?_
 refine ⟨fun h2=>?_,fun h2=>?_⟩
 ·have hi2:i < s.lists.length:=by omega
  have hwi:=qh (i:=i) (by omega)
  have hat:s.lists.getD i default = s.lists[i]:=qk hi2
  have hstep:wV s (i + 1) = if lstE s.lists[i]≠0 then lstE s.lists[i] else if ((s.lists.take i).any fun x=>eqB x.name s.lists[i].name) = true then 10 else 0:=by
   rw [wV,if_neg (by rw [i2];simp),hat]
  have hbad:wV s (i + 1)≠0→schE s = wV s (i + 1):=fun k=>by
   have:=qF0 k s.lists.length (by omega)
   rw [hE1 (by rw [this];exact k),this]
  have hCF:=QE (fun x=>eqB x.name s.lists[i].name) wA [.ip (cdlT s.lists[i]).cells] rfl (s.lists.take i) (fun x _=>qx0 x s.lists[i]) (by rw [List.length_take];omega)
  simp only [tZ,↓un_u,simprocAttr,Int.toNat_natCast,qe hi2,hwi]
  generalize s.lists[i] = c at *
  refine ⟨by omega,?_⟩
  refine C1.im (Zs c) (by rfl) (by rfl) ?_
  simp only [tZ,↓un_u,simprocAttr,bne_iff_ne,bne_eq_false_iff_eq]
  refine ⟨fun h3=>?_,fun h3=>?_⟩
  ·rw [if_pos h3] at hstep
   rw [hbad (by rw [hstep];exact h3),hstep]
   exact .oA [] []
  rw [if_neg (by rw [h3];simp)] at hstep
  refine ⟨by omega,?_⟩
  rw [WX,qC2]
  refine C1.lend [24588] hCF ?_ (by rfl) (by rfl) ?_
  ·all_goals (try simp only [tL,simprocAttr,List.map_append,List.map_cons,List.map_nil,List.cons_append,List.nil_append])
   all_goals (try (repeat' (first | exact qR | (apply zd;intro _;exact ⟨rfl,rfl⟩) | (apply qz;intro _;exact ⟨rfl,rfl⟩) | with_reducible apply qG | with_reducible refine qE ⟨rfl,rfl⟩ ?_ | exact qO | with_reducible apply qA | with_reducible refine qJ ⟨rfl,rfl,?_⟩ ?_ | with_reducible apply And.intro | exact qD rfl | exact qD (by assumption) | (refine ⟨⟨?_,rfl,?_,rfl,?_⟩,trivial⟩ <;> first | (simp;done) | (apply qz;intro _;exact ⟨rfl,rfl⟩)) | trivial | rfl | (rw [qh (by omega)]) | omega)))
   simp only [ltP]
   exact ⟨rfl,by decide,rfl,qE ⟨rfl,rfl⟩ qO⟩
  simp only [tZ,↓un_u,simprocAttr,hwi]
  refine ⟨fun h4=>?_,fun h4=>?_⟩
  ·rw [if_pos h4] at hstep
   rw [hbad (by rw [hstep];simp),hstep]
   exact .oA [] []
  ·rw [if_neg (by rw [h4];simp)] at hstep
   refine ⟨i + 1,⟨by omega,hstep⟩,by omega,?_⟩
   exact .oA [(4096,some 4096)] []
 ·have hil:i = s.lists.length:=by omega
  subst hil
  have hE2:s.cols.length = 0∨(qj s 0).kind≠1→schE s = 7:=fun k=>by rw [schE,if_neg (by omega),if_neg (by rw [i2];simp),if_pos k]
  have hE3:¬ (s.cols.length = 0∨(qj s 0).kind≠1)→schE s = Kh s s.cols.length:=fun k=>by rw [schE,if_neg (by omega),if_neg (by rw [i2];simp),if_neg k]
  have hz:((0:Nat):Int) = 0:=rfl
  by_cases h0:s.cols.length = 0
  ·have hn:s.cols = []:=List.length_eq_zero_iff.1 h0
   rw [hE2 (.inl h0)]
   simp only [tZ,↓un_u,simprocAttr,hn,List.length_nil,hz,beq_self_eq_true]
   exact .oA [] []
  ·have h0p:0 < s.cols.length:=by omega
   have e0:((s.cols.length:Int) == 0) = false:=beq_eq_false_iff_ne.2 (by omega)
   have hc0:qj s 0 = s.cols[0]:=by rw [qj,qk h0p]
   simp only [tZ,↓un_u,simprocAttr,e0,qe h0p,bne_iff_ne,bne_eq_false_iff_eq,Bool.false_or]
   refine ⟨by omega,fun h3=>?_,fun h3=>?_⟩
   ·rw [hE2 (.inr (by rw [hc0];exact h3))]
    exact .oA [] []
   have hE4:=hE3 (by rw [hc0];grind)
   refine qu mixm (α:=Nat) [53] (fun i=>i≤s.cols.length∧Kh s i = 0) (fun i=>[(53,vI i)]) (fun i=>[(4096,.arr 2 [schT s] false)]) (fun i=>s.cols.length - i) 0 ⟨by omega,rfl⟩ ?_ fun i hi=>?_
   ·exact .oA [(4096,some 4096)] []
   simp only [tZ,↓un_u,simprocAttr,decide_eq_true_eq,decide_eq_false_iff_not]
   refine ⟨fun h=>?_,fun h=>?_⟩
   ·have hi2:i < s.cols.length:=by omega
    have hwi:=qh (i:=i) (by omega)
    have hstep:Kh s (i + 1) = colE s i:=by rw [Kh,if_neg (by rw [hi.2];simp)]
    refine C1.im (qb0 s i hi2 hn hl) (by rfl) (by rfl) ?_
    simp only [tZ,↓un_u,simprocAttr,bne_iff_ne,bne_eq_false_iff_eq,hwi]
    refine ⟨fun h4=>?_,fun h4=>?_⟩
    ·have:=qF1 (s:=s) (i:=i + 1) (by rw [hstep];exact h4) s.cols.length (by omega)
     rw [hE4,this,hstep]
     exact .oA [] []
    ·refine ⟨i + 1,⟨by omega,by rw [hstep];exact h4⟩,by omega,?_⟩
     exact .oA [(4096,some 4096)] []
   ·have hil:i = s.cols.length:=by omega
    rw [hE4,← hil,hi.2]
    exact .oA [] []
end Go.Proofs
namespace Go.Proofs
open Go Go.TL
set_option maxRecDepth 4000
set_option maxHeartbeats 8000000
theorem qy5 {cs:List Cod}:∀ {n:Nat} {v:Int},lvs cs n = some v→∀ j,j < n→qf4 cs j = true→(dep cs j:Int) = v
 | 0,_,_,j,h,_=>by omega
 | n + 1,v,h,j,hj,hl=>by
   rw [qy3] at h
   cases e:lvs cs n with
   | none=>rw [e] at h;cases h
   | some w=>
     rw [e] at h
     have ih:=fun k hk h2=>qy5 e k hk h2
     unfold lvS at h
     dsimp only at h
     split at h
     ·split at h
      ·cases h
      ·rename_i h2
       have hv:(dep cs n:Int) = v:=by simpa using h
       by_cases e2:j = n
       ·rw [e2];exact hv
       ·have:=ih j (by omega) hl
        omega
     ·rename_i h2
      have hv:w = v:=by simpa using h
      by_cases e2:j = n
      ·rw [e2] at hl;exact absurd hl h2
      ·have:=ih j (by omega) hl
       omega
theorem qU7 {cs:List Cod} {c:Nat}:qf4 cs c = true↔∀ i,i < cs.length→parC cs i≠c:=by
 unfold qf4
 rw [Bool.not_eq_true',List.any_eq_false]
 constructor
 ·intro h i hi e
  have:=h cs[i] (List.getElem_mem hi)
  rw [parC,cdAt,qk hi] at e
  simp [e] at this
 ·intro h x hx
  obtain ⟨i,hi,rfl⟩:=List.getElem_of_mem hx
  have:=h i hi
  rw [parC,cdAt,qk hi] at this
  simpa using this
theorem jb9 {l:CodL} (h:lstE l = 0):∃ v,lvs l.codes l.codes.length = some v:=by
 unfold lstE at h
 split at h
 ·cases h
 ·split at h
  ·cases h
  ·split at h
   ·cases h
   ·split at h
    ·rename_i h2;exact absurd h h2
    ·split at h
     ·cases h
     ·rename_i v e;exact ⟨v,e⟩
theorem zm7 {l:CodL} (h:lstE l = 0) {c:Nat} (hc:c < l.codes.length):(dep l.codes c:Int)≤zi l - 1∧(qf4 l.codes c = true→(dep l.codes c:Int) = zi l - 1)∧(qf4 l.codes c = false→(dep l.codes c:Int) < zi l - 1):=by
 obtain ⟨hp,h1,h2⟩:=zw h
 obtain ⟨v,hv⟩:=jb9 h
 have hlast:qf4 l.codes (l.codes.length - 1) = true:=qU7.2 fun i hi e=>by
  have:=(hp i hi).2
  omega
 have hlv:=qy5 hv (l.codes.length - 1) (by omega) hlast
 have hL:zi l - 1 = v:=by rw [zi,if_neg (by rw [h];simp)];omega
 have hall:∀ k c,l.codes.length - c = k→c < l.codes.length→(dep l.codes c:Int)≤v∧(qf4 l.codes c = false→(dep l.codes c:Int) < v):=by
  intro k
  induction k using Nat.strongRecOn with
  | _ k ih=>
    intro c hk hc
    cases hl:qf4 l.codes c with
    | true=>
      have:=qy5 hv c hc hl
      exact ⟨by omega,fun e=>by cases e⟩
    | false=>
      have hn:¬ ∀ i,i < l.codes.length→parC l.codes i≠c:=fun k=>by rw [qU7.2 k] at hl;cases hl
      simp only [Classical.not_forall] at hn
      obtain ⟨i,hi,hn⟩:=hn
      have hpc:parC l.codes i = c:=Classical.byContradiction hn
      have h3:=hp i hi
      have h4:=qr3 hp hi (by omega)
      rw [hpc,Int.toNat_natCast] at h4
      have h5:=ih (l.codes.length - i) (by omega) i rfl hi
      have:=h5.1
      exact ⟨by omega,fun _=>by omega⟩
 have:=hall _ c rfl hc
 rw [hL]
 exact ⟨this.1,fun hl=>qy5 hv c hc hl,this.2⟩
theorem jc0 {l:CodL} (h:lstE l = 0) {c:Nat} (hc:c < l.codes.length):qf4 l.codes c = true↔(dep l.codes c:Int) = zi l - 1:=by
 obtain ⟨_,h2,h3⟩:=zm7 h hc
 cases hl:qf4 l.codes c with
 | true=>exact ⟨fun _=>h2 hl,fun _=>rfl⟩
 | false=>
   have:=h3 hl
   exact ⟨(by intro e;cases e),fun e=>by omega⟩
theorem Wg (p:Cod→Bool) (f:FuncId) (caps:List T) (hcap:imL caps = true) (l:List Cod) (hf:∀ y∈l,Spc Tryz.prog f (codT y :: caps) [] (vB (p y)) []) (hl:l.length < 4611686018427387904) :
 Spc Tryz.prog jM [.sl 2 (l.map codT),.clo f caps] [] (vI (idxI p l)) []:=by
 refine qd Kg mixm (by simp) fun e _ hst=>qg ?_
 unfold jD
 refine sW ?_
 refine qu mixm (α:=Nat) [8] (fun i=>i≤l.length∧((l.take i).any p = false)) (fun i=>[(8,vI i)]) (fun i=>[]) (fun i=>l.length - i) 0 ⟨by omega,?_⟩ ?_ fun i hi=>?_
 ·simp
 ·exact .oA [] []
 simp only [tZ,↓un_u,simprocAttr,decide_eq_true_eq,decide_eq_false_iff_not]
 refine ⟨fun h=>?_,fun h=>?_⟩
 ·have hi2:i < l.length:=by omega
  have hwi:=qh (i:=i) (by omega)
  simp only [tZ,↓un_u,simprocAttr,Int.toNat_natCast,qe hi2,hwi,qd0]
  refine ⟨by omega,?_⟩
  refine C1.im (hf l[i] (List.getElem_mem hi2)) (WZ rfl hcap) rfl ?_
  refine sW ?_
  refine ⟨fun h3=>?_,fun h3=>⟨i + 1,⟨by omega,zQ hi2 hi.2 h3⟩,by omega,?_⟩⟩
  ·rw [idxI,if_pos (qi2 hi2 h3),yQ hi2 hi.2 h3]
   exact .imR rfl rfl
  ·exact .oA [] []
 ·have h2:i = l.length:=by omega
  have h3:=hi.2
  rw [h2,List.take_length] at h3
  rw [idxI,if_neg (by rw [h3];simp)]
  exact .imR rfl rfl
theorem Jl (p:Cod→Bool) (f:FuncId) (caps:List T) (hcap:imL caps = true) (l:List Cod) (hf:∀ y∈l,Spc Tryz.prog f (codT y :: caps) [] (vB (p y)) []) (hl:l.length < 4611686018427387904) :
 Spc Tryz.prog zV [.sl 2 (l.map codT),.clo f caps] [] (vB (l.any p)) []:=by
 refine qd ZW mixm (by simp) fun e _ hst=>qg ?_
 unfold zO
 refine sW ?_
 refine C1.im (Wg p f caps hcap l hf hl) (qi3 rfl hcap) rfl ?_
 refine sW ?_
 rw [show decide (idxI p l≥0) = l.any p from qd1 p l]
 exact .imR rfl rfl
theorem qG5 (x:Cod) (v:Int):Spc Tryz.prog ym [codT x,.ip [vI v]] [] (vB (x.par == v)) []:=by
 refine qd qw6 mixm (by simp) fun e _ hst=>qg ?_
 unfold Za
 refine sW ?_
 exact .oA [] []
theorem zS8 {l:CodL} (h:lstE l = 0) (v:Int):(decide (0≤v) && decide (v < l.codes.length) && !(l.codes.any fun x=>x.par == v)) = (inB v 0 (l.codes.length - 1) && (lvlC l v == zi l - 1)):=by
 unfold inB
 by_cases h0:0≤v∧v < l.codes.length
 ·obtain ⟨c,rfl⟩:=Int.eq_ofNat_of_zero_le h0.1
  have hc:c < l.codes.length:=by omega
  have h1:lvlC l c = dep l.codes c:=by rw [lvlC,if_neg (by rw [h];simp;omega),Int.toNat_natCast]
  rw [decide_eq_true h0.1,decide_eq_true h0.2,decide_eq_true (show (c:Int)≤(l.codes.length:Int) - 1 by omega),h1]
  simp only [Bool.true_and]
  rw [Bool.eq_iff_iff,beq_iff_eq,← jc0 h hc]
  rfl
 ·by_cases h1:0≤v
  ·rw [decide_eq_true h1,decide_eq_false (show ¬ v < l.codes.length by omega),decide_eq_false (show ¬ v≤(l.codes.length:Int) - 1 by omega)]
   rfl
  ·rw [decide_eq_false h1]
   rfl
theorem qU8 (s:Sch) (h:SchOk s) (i:Nat) (hi:i < s.cols.length) (v:Int):Spc Tryz.prog KE [schT s,colT s.cols[i],vI v] [] (vB (kI s i v)) []:=by
 have hat:qj s i = s.cols[i]:=by rw [qj,qk hi]
 have hk:=zf (h.cs i hi)
 have hcd:=fun e=>h.cdl hi e
 have hE:kI s i v = if s.cols[i].kind = 1 then inB v 1 1048575
  else if s.cols[i].kind = 2 then inB v 0 ((qM s i).codes.length - 1) && (lvlC (qM s i) v == zi (qM s i) - 1)
  else (s.cols[i].opt && (v == qf5)) || inB v s.cols[i].low s.cols[i].high:=by rw [kI,hat]
 have hcl:qM s i = s.lists.getD s.cols[i].list.toNat default:=by rw [qM,hat]
 rw [hat] at hk hcd
 rw [hE]
 rw [hcl] at hcd ⊢
 generalize s.cols[i] = c at hk hcd ⊢
 refine qd qK0 mixm (by simp) fun e _ hst=>qg ?_
 unfold JH
 refine sW ?_
 simp only [tZ,↓un_u,simprocAttr,beq_iff_eq,beq_eq_false_iff_ne]
 refine ⟨fun h1=>?_,fun h1=>⟨fun h2=>?_,fun h2=>?_⟩⟩
 ·rw [if_pos h1,show inB v 1 1048575 = (decide (1≤v) && decide (v≤1048575)) from rfl]
  exact .oA [] []
 ·obtain ⟨d1,d2⟩:=hcd h2
  obtain ⟨d3,d4⟩:=hk.2.2.2.1 h2
  have hgl:s.lists.getD c.list.toNat default = s.lists[c.list.toNat]:=qk d1
  rw [if_neg h1,if_pos h2]
  rw [hgl] at d2 ⊢
  obtain ⟨_,d5,d6⟩:=zw d2
  simp only [tZ,↓un_u,simprocAttr,qe d1]
  generalize s.lists[c.list.toNat] = l at d2 d5 d6 ⊢
  have hCF:=Jl (fun x=>x.par == v) ym [.ip [vI v]] rfl l.codes (fun x _=>qG5 x v) (by omega)
  refine ⟨by omega,?_⟩
  refine C2.lend [4104] (fun _=>hCF) (fun _=>?_) (by rfl) (by rfl) ?_
  ·all_goals (try simp only [tL,simprocAttr,List.map_append,List.map_cons,List.map_nil,List.cons_append,List.nil_append])
   all_goals (try (repeat' (first | exact qR | (apply zd;intro _;exact ⟨rfl,rfl⟩) | (apply qz;intro _;exact ⟨rfl,rfl⟩) | with_reducible apply qG | with_reducible refine qE ⟨rfl,rfl⟩ ?_ | exact qO | with_reducible apply qA | with_reducible refine qJ ⟨rfl,rfl,?_⟩ ?_ | with_reducible apply And.intro | exact qD rfl | exact qD (by assumption) | (refine ⟨⟨?_,rfl,?_,rfl,?_⟩,trivial⟩ <;> first | (simp;done) | (apply qz;intro _;exact ⟨rfl,rfl⟩)) | trivial | rfl | (rw [qh (by omega)]) | omega)))
   simp only [ltP]
   exact ⟨rfl,by decide,rfl,qE ⟨rfl,rfl⟩ qO⟩
  refine sW ?_
  rw [← zS8 d2 v]
  exact .oA [] []
 ·rw [if_neg h1,if_neg h2,Bool.or_comm,show inB v c.low c.high = (decide (c.low≤v) && decide (v≤c.high)) from rfl]
  rw [show (c.opt && v == qf5) = (c.opt && v == -1099511627776) from rfl]
  exact .oA [] []
end Go.Proofs
namespace Go.Proofs
open Go Go.TL
set_option maxRecDepth 4000
set_option maxHeartbeats 8000000
theorem qx1 (l:List Int) (m:Int) (hm:m∈l) (hle:∀ x∈l,x≤m) (hl:l.length < 4611686018427387904):Spc Tryz.prog QP [vIs l] [] (vI m) []:=by
 have h0:0 < l.length:=List.length_pos_of_mem hm
 have e0:decide ((l.length:Int) < 1) = false:=decide_eq_false (by omega)
 refine qd qr2 mixm (by simp) fun e _ hst=>qg ?_
 unfold Qm
 simp only [tZ,↓un_u,simprocAttr,e0,qe h0]
 refine ⟨by omega,?_⟩
 refine qu mixm (α:=Nat×Int) [3,4] (fun q=>1≤q.1∧q.1≤l.length∧q.2∈l∧∀ x∈l.take q.1,x≤q.2) (fun q=>[(3,vI q.2),(4,vI q.1)]) (fun q=>[]) (fun q=>l.length - q.1) (1,l[0]) ⟨by simp,by dsimp only;omega,List.getElem_mem h0,fun x hx=>by
  rw [show l.take 1 = [l[0]] by cases l with | nil=>simp at h0 | cons a r=>rfl,List.mem_singleton] at hx
  rw [hx];exact Int.le_refl _⟩ ?_ fun q hq=>?_
 ·exact .oA [] []
 obtain ⟨i,v⟩:=q
 obtain ⟨i0,i1,i2,i3⟩:=hq
 dsimp only at i0 i1 i2 i3
 refine sD ?_
 refine ⟨fun h2=>?_,fun h2=>?_⟩
 ·have hi2:i < l.length:=by omega
  have hwi:=qh (i:=i) (by omega)
  simp only [tZ,↓un_u,simprocAttr,Int.toNat_natCast,qe hi2,hwi]
  refine ⟨by omega,(i + 1,maxI v l[i]),⟨by dsimp only;omega,by dsimp only;omega,?_,fun x hx=>?_⟩,by dsimp only;omega,?_⟩
  ·dsimp only [maxI]
   split
   ·exact List.getElem_mem hi2
   ·exact i2
  ·dsimp only at hx
   dsimp only [maxI]
   rw [qY hi2] at hx
   rcases List.mem_append.1 hx with k | k
   ·have:=i3 x k
    split <;> omega
   ·rw [List.mem_singleton.1 k]
    split <;> omega
  ·exact .oA [] []
 ·have hv:v = m:=by
   have h5:=hle v i2
   have h6:=i3 m (by rw [List.take_of_length_le (by omega)];exact hm)
   omega
  rw [hv]
  exact .oA [] []
theorem JS (l:CodL):Spc Tryz.prog wv [cdlT l] [] (vI (zi l)) []:=by
 refine qd qE5 mixm (by simp) fun e _ hst=>qg ?_
 unfold ZY
 refine sW ?_
 refine C1.im (Zs l) (by rfl) (by rfl) ?_
 simp only [tZ,↓un_u,simprocAttr,bne_iff_ne,bne_eq_false_iff_eq]
 refine ⟨fun h=>?_,fun h=>?_⟩
 ·rw [zi,if_pos h]
  exact .oA [] []
 obtain ⟨hp,h1,h2⟩:=zw h
 have hdl:=YQ l.codes
 have hL:zi l = (dep l.codes (l.codes.length - 1):Int) + 1:=by rw [zi,if_neg (by rw [h];simp)]
 have hd:=qt9 hp (l.codes.length - 1) (by omega)
 have hM:=qx1 (depL l.codes) (dep l.codes (l.codes.length - 1)) (List.mem_map.2 ⟨l.codes.length - 1,List.mem_range.2 (by omega),rfl⟩) (fun x hx=>by
  obtain ⟨c,hc,rfl⟩:=List.mem_map.1 hx
  have:=(zm7 h (List.mem_range.1 hc)).1
  omega) (by omega)
 have hw:=qh (i:=dep l.codes (l.codes.length - 1)) (by omega)
 refine C1.im (wx l (qn1 h)) (by rfl) (by rfl) ?_
 refine sW ?_
 refine C1.im hM (by rfl) (by rfl) ?_
 simp only [tZ,↓un_u,simprocAttr,hw]
 rw [hL]
 exact .oA [] []
def hasB (l:CodL) (c:Int):Bool:=decide (0≤c) && decide (c < l.codes.length) && (lstE l == 0)
theorem qg2 (l:CodL) (c:Int):Spc Tryz.prog ZG [cdlT l,vI c] [] (vB (hasB l c)) []:=by
 refine qd ze8 mixm (by simp) fun e _ hst=>qg ?_
 unfold Yu
 refine sW ?_
 refine C2.im (fun _=>Zs l) (fun _=>rfl) (by rfl) ?_
 refine sW ?_
 rw [show hasB l c = (decide (0≤c) && decide (c < l.codes.length) && (lstE l == 0)) from rfl]
 exact .oA [] []
theorem qn2 {l:CodL} {c:Int}:hasB l c = true↔0≤c∧c < l.codes.length∧lstE l = 0:=by
 unfold hasB
 rw [Bool.and_eq_true,Bool.and_eq_true,decide_eq_true_eq,decide_eq_true_eq,beq_iff_eq,and_assoc]
theorem qU9 {cs:List Cod} {c:Nat} (h:c < (depL cs).length):(depL cs)[c] = dep cs c:=by simp [depL]
theorem qs1 (l:CodL) (lev:Int):Spc Tryz.prog Ka [cdlT l,vI lev] [] (vIs (atL l lev)) []:=by
 refine qd zm2 mixm (by simp) fun e _ hst=>qg ?_
 unfold qf1
 refine sW ?_
 refine C1.im (Zs l) (by rfl) (by rfl) ?_
 simp only [tZ,↓un_u,simprocAttr,bne_iff_ne,bne_eq_false_iff_eq]
 refine ⟨fun h=>?_,fun h=>?_⟩
 ·rw [atL,if_pos h]
  exact .oA [] []
 obtain ⟨hp,h1,h2⟩:=zw h
 have e:atL l lev = atN l.codes lev l.codes.length:=by rw [atL,if_neg (by rw [h];simp)];rfl
 rw [e]
 have hdl:=YQ l.codes
 refine C1.im (wx l (qn1 h)) (by rfl) (by rfl) ?_
 refine sW ?_
 refine qu mixm (α:=Nat) [5,14] (fun i=>i≤l.codes.length) (fun i=>[(5,.asl 1 (atN l.codes lev i).length),(14,vI i)]) (fun i=>[(1,.arr 1 ((atN l.codes lev i).map vI) false)]) (fun i=>l.codes.length - i) 0 (by omega) ?_ fun i hi=>?_
 ·simp only [atN,List.range_zero,List.filter_nil,List.map_nil,List.length_nil]
  exact .oA [(1,none)] []
 have hli:=jn2 l.codes lev i
 refine sD ?_
 refine ⟨fun h3=>?_,fun h3=>?_⟩
 ·have hi2:i < (depL l.codes).length:=by omega
  have hwi:=qh (i:=i) (by omega)
  have hs:=ja6 l.codes lev i
  simp only [tZ,↓un_u,simprocAttr,Int.toNat_natCast,qe hi2,qU9 hi2,beq_iff_eq,beq_eq_false_iff_ne,hwi]
  refine ⟨by omega,fun h4=>?_,fun h4=>?_⟩
  ·rw [if_pos h4] at hs
   refine ⟨by omega,i + 1,by omega,by omega,?_⟩
   rw [hs]
   exact .oA [(1,some 1)] []
  ·rw [if_neg h4,List.append_nil] at hs
   refine ⟨i + 1,by omega,by omega,?_⟩
   rw [hs]
   exact .oA [(1,some 1)] []
 ·have hil:i = l.codes.length:=by omega
  subst hil
  exact .oA [] [1]
theorem YR (l:CodL) (c lev:Int):Spc Tryz.prog yU [cdlT l,vI c,vI lev] [] (vI (upC l c lev)) []:=by
 refine qd zl8 mixm (by simp) fun e _ hst=>qg ?_
 unfold qe6
 refine sW ?_
 refine C1.im (qg2 l c) (by rfl) (by rfl) ?_
 simp only [tZ,↓un_u,simprocAttr,tD,Bool.not_eq_true',Bool.not_eq_false']
 refine ⟨fun h=>?_,fun h=>?_⟩
 ·have:upC l c lev = -1:=by
   rw [upC]
   by_cases k:lstE l≠0∨c < 0∨c≥l.codes.length∨lev < 0∨lev > dep l.codes c.toNat
   ·rw [if_pos k]
   ·rcases h with h | h
    ·have:=qn2 (l:=l) (c:=c)
     rw [h] at this
     exact absurd (this.2 ⟨by omega,by omega,Classical.byContradiction fun q=>k (.inl q)⟩) (by simp)
    ·omega
  rw [this]
  exact .oA [] []
 obtain ⟨h0,h1,h2⟩:=qn2.1 h.1
 obtain ⟨hp,h3,h4⟩:=zw h2
 obtain ⟨k,rfl⟩:=Int.eq_ofNat_of_zero_le h0
 obtain ⟨v,rfl⟩:=Int.eq_ofNat_of_zero_le (show 0≤lev by omega)
 have hdl:=YQ l.codes
 have hk:k < (depL l.codes).length:=by omega
 have hdk:=qt9 hp k (by omega)
 refine C1.im (wx l (qn1 h2)) (by rfl) (by rfl) ?_
 simp only [tZ,↓un_u,simprocAttr,Int.toNat_natCast,qe hk,qU9 hk]
 refine ⟨by omega,?_⟩
 by_cases hlv:dep l.codes k < v
 ·have hU:upC l k v = -1:=by rw [upC,if_pos (by simp;omega)]
  rw [hU]
  refine qu mixm (α:=Unit) [1,7] (fun _=>True) (fun _=>[(1,vI k),(7,vI (dep l.codes k))]) (fun _=>[(4096,.arr 2 [cdlT l] false)]) (fun _=>0) () trivial ?_ fun _ _=>?_
  ·exact .oA [(4096,some 4096)] []
  have e0:decide ((dep l.codes k:Int)≥(v:Int)) = false:=decide_eq_false (by omega)
  have e1:decide ((v:Int)≤(dep l.codes k:Int)) = false:=decide_eq_false (by omega)
  simp only [tZ,↓un_u,simprocAttr,e0,e1]
  exact .oA [] []
 have hU:upC l k v = upF l.codes v (k + 1) k:=by rw [upC,if_neg (by simp;omega),Int.toNat_natCast,Int.toNat_natCast]
 rw [hU]
 refine qu mixm (α:=Nat) [1,7] (fun x=>x < l.codes.length∧v≤dep l.codes x∧upF l.codes v (k + 1) k = upF l.codes v (x + 1) x) (fun x=>[(1,vI x),(7,vI (dep l.codes x))]) (fun x=>[(4096,.arr 2 [cdlT l] false)]) (fun x=>x) k ⟨by omega,by omega,rfl⟩ ?_ fun x hx=>?_
 ·exact .oA [(4096,some 4096)] []
 obtain ⟨x1,x2,x3⟩:=hx
 have hcd:l.codes[x].par = parC l.codes x:=by rw [parC,cdAt,qk x1]
 have e0:decide ((dep l.codes x:Int)≥(v:Int)) = true:=decide_eq_true (by omega)
 have e1:decide ((v:Int)≤(dep l.codes x:Int)) = true:=decide_eq_true (by omega)
 have hdx:=qt9 hp x x1
 simp only [tZ,↓un_u,simprocAttr,e0,e1,Int.toNat_natCast,qe x1,hcd,beq_iff_eq,beq_eq_false_iff_ne]
 refine ⟨fun h6=>?_,fun h6=>?_⟩
 ·rw [x3,zR3 (by omega)]
  exact .oA [] []
 ·obtain ⟨u1,u2,u3,u4⟩:=up_step hp (lev:=v) x1 (by omega)
  obtain ⟨p,hpe⟩:=Int.eq_ofNat_of_zero_le u1
  have hw:IntKind.i64.wrap ((dep l.codes x:Int) - 1) = (dep l.codes p:Int):=by
   rw [IntWalk.i64_in _ (by omega),u3,hpe,Int.toNat_natCast];omega
  rw [hpe,Int.toNat_natCast] at u4 u3
  simp only [tZ,↓un_u,simprocAttr,hpe,hw]
  refine ⟨by omega,p,⟨by omega,by omega,x3.trans u4⟩,by omega,?_⟩
  exact .oA [(4096,some 4096)] []
theorem qV0 (l:CodL) (c a:Int):Spc Tryz.prog KI [cdlT l,vI c,vI a] [] (vB (qu0 l c a)) []:=by
 refine qd qL0 mixm (by simp) fun e _ hst=>qg ?_
 unfold JO
 refine sW ?_
 refine C1.im (qg2 l c) (by rfl) (by rfl) ?_
 refine sW ?_
 refine C2.im (fun _=>qg2 l a) (fun _=>rfl) (by rfl) ?_
 simp only [tZ,↓un_u,simprocAttr,Bool.or_eq_true,Bool.or_eq_false_iff,Bool.not_eq_true',Bool.not_eq_false']
 refine ⟨fun h=>?_,fun h=>?_⟩
 ·have:qu0 l c a = false:=by
   cases e:qu0 l c a with
   | false=>rfl
   | true=>
     unfold qu0 at e
     simp only [Bool.and_eq_true,decide_eq_true_eq,beq_iff_eq] at e
     obtain ⟨⟨e1,e2⟩,e3⟩:=e
     have key:∀ x,0≤lvlC l x→hasB l x = true:=fun x hx=>by
      rw [qn2]
      unfold lvlC at hx
      split at hx
      ·omega
      ·rename_i q
       exact ⟨by omega,by omega,Classical.byContradiction fun z=>q (.inl z)⟩
     have ha:=key a e1
     have hc:=key c (by omega)
     rcases h with h | h
     ·rw [hc] at h;cases h
     ·rw [ha] at h;cases h
  rw [this]
  exact .oA [] []
 obtain ⟨c0,c1,c2⟩:=qn2.1 h.1
 obtain ⟨a0,a1,_⟩:=qn2.1 h.2
 obtain ⟨hp,h3,h4⟩:=zw c2
 obtain ⟨k,rfl⟩:=Int.eq_ofNat_of_zero_le c0
 obtain ⟨j,rfl⟩:=Int.eq_ofNat_of_zero_le a0
 have hdl:=YQ l.codes
 have hj:j < (depL l.codes).length:=by omega
 have hdk:=qt9 hp k (by omega)
 have hdj:=qt9 hp j (by omega)
 have l1:lvlC l j = dep l.codes j:=by rw [lvlC,if_neg (by rw [c2];simp;omega),Int.toNat_natCast]
 have l2:lvlC l k = dep l.codes k:=by rw [lvlC,if_neg (by rw [c2];simp;omega),Int.toNat_natCast]
 have hU:qu0 l k j = (upC l k (dep l.codes j) == (j:Int)):=by
  unfold qu0
  rw [l1,l2,decide_eq_true (by omega),Bool.true_and]
  by_cases q:(dep l.codes j:Int)≤dep l.codes k
  ·rw [decide_eq_true q,Bool.true_and]
  ·rw [decide_eq_false q,Bool.false_and,upC,if_pos (by simp;omega)]
   symm
   exact beq_eq_false_iff_ne.2 (by omega)
 rw [hU]
 refine C1.im (wx l (qn1 c2)) (by rfl) (by rfl) ?_
 simp only [tZ,↓un_u,simprocAttr,Int.toNat_natCast,qe hj,qU9 hj]
 refine ⟨by omega,?_⟩
 refine C1.im (YR l k (dep l.codes j)) (by rfl) (by rfl) ?_
 refine sW ?_
 repeat (first | refine ⟨by omega,?_⟩ | refine ⟨by kernel_rfl,?_⟩)
 exact .oA [] []
end Go.Proofs
namespace Go.Proofs
open Go Go.TL
set_option maxRecDepth 4000
set_option maxHeartbeats 8000000
theorem zm8 {n w:Int} (hw:0 < w):qK n w * w = n - (if n.tmod w < 0 then n.tmod w + w else n.tmod w):=by
 have h1:=Int.mul_tdiv_add_tmod n w
 rw [Int.mul_comm] at h1
 rw [ja8 hw]
 split
 ·rw [Int.sub_mul];omega
 ·omega
theorem Wh (n w:Int) (hw:0 < w∧w≤1000000) (hn : -4611686018427387904 < n∧n < 4611686018427387904):Spc Tryz.prog yj [vI n,vI w] [] (vI (qK n w * w)) []:=by
 rw [zm8 hw.1]
 have h2:=Int.tmod_lt_of_pos n hw.1
 have h3:=Int.lt_tmod_of_pos n hw.1
 have w1:IntKind.i64.wrap (n.tmod w) = n.tmod w:=IntWalk.i64_in _ (by omega)
 have w2:IntKind.i64.wrap (n.tmod w + w) = n.tmod w + w:=IntWalk.i64_in _ (by omega)
 have w3:IntKind.i64.wrap (n - n.tmod w) = n - n.tmod w:=IntWalk.i64_in _ (by omega)
 have w4:IntKind.i64.wrap (n - (n.tmod w + w)) = n - (n.tmod w + w):=IntWalk.i64_in _ (by omega)
 refine qd qK2 mixm (by simp) fun e _ hst=>qg ?_
 unfold JI
 simp only [tZ,↓un_u,simprocAttr,w1,w2,w3,w4,tD]
 refine ⟨by omega,fun h=>?_,fun h=>?_⟩
 ·rw [if_pos h]
  exact .oA [] []
 ·rw [if_neg h]
  exact .oA [] []
theorem qc2 (c:Col) (lev:Int) (h1:1≤lev∧lev≤c.widths.length) (h2:c.widths.length < 4611686018427387904):Spc Tryz.prog Qw [colT c,vI lev] [] (vI (zm c lev)) []:=by
 have hw:IntKind.i64.wrap ((c.widths.length:Int) - lev) = (c.widths.length:Int) - lev:=IntWalk.i64_in _ (by omega)
 have hk:((c.widths.length:Int) - lev).toNat < c.widths.length:=by omega
 refine qd qE1 mixm (by simp) fun e _ hst=>qg ?_
 unfold ZS
 simp only [tZ,↓un_u,simprocAttr,hw,qe hk]
 rw [zm,qk hk]
 refine ⟨by omega,?_⟩
 exact .oA [] []
theorem Jd (s:Sch) (hE:schE s = 0) (c:Int):Spc Tryz.prog ky [schT s,vI c] [] (vI (finI s c)) []:=by
 have hok:=qZ hE
 have hnc:=hok.nc
 refine qd qw0 mixm (by simp) fun e _ hst=>qg ?_
 unfold QX
 refine sD ?_
 refine ⟨fun h=>?_,fun h=>?_⟩
 ·rw [finI,if_pos (by omega)]
  exact .oA [] []
 obtain ⟨i,rfl⟩:=Int.eq_ofNat_of_zero_le (show 0≤c by omega)
 have hi:i < s.cols.length:=by omega
 have hat:qj s i = s.cols[i]:=by rw [qj,qk hi]
 have hk:=zf (hok.cs i hi)
 have hcd:=fun e=>hok.cdl hi e
 have hcl:qM s i = s.lists.getD s.cols[i].list.toNat default:=by rw [qM,hat]
 rw [hat] at hk hcd
 rw [hcl] at hcd
 rw [finI,if_neg (by omega),Int.toNat_natCast,hcl,hat]
 simp only [tZ,↓un_u,simprocAttr,Int.toNat_natCast,qe hi]
 generalize s.cols[i] = x at hk hcd ⊢
 simp only [tZ,↓un_u,simprocAttr,beq_iff_eq,beq_eq_false_iff_ne]
 refine ⟨by omega,fun h2=>?_,fun h2=>?_⟩
 ·obtain ⟨d1,d2⟩:=hcd h2
  obtain ⟨d3,d4⟩:=hk.2.2.2.1 h2
  have hgl:s.lists.getD x.list.toNat default = s.lists[x.list.toNat]:=qk d1
  rw [if_pos h2]
  rw [hgl] at d2 ⊢
  simp only [tZ,↓un_u,simprocAttr,qe d1]
  generalize s.lists[x.list.toNat] = l at d2 ⊢
  have hlv:=qF2 (l:=l)
  have hw2:IntKind.i64.wrap (zi l - 1) = zi l - 1:=IntWalk.i64_in _ (by omega)
  refine ⟨by omega,?_⟩
  refine C1.im (JS l) (by rfl) (by rfl) ?_
  simp only [tZ,↓un_u,simprocAttr,hw2]
  exact .oA [] []
 ·rw [if_neg h2]
  exact .oA [] []
theorem yI (s:Sch) (hs:Ze s) (c:Int):Spc Tryz.prog jv [schT s,vI c] [] (vI (finI s c)) []:=by
 refine qd qv6 mixm (by simp) fun e _ hst=>qg ?_
 unfold QT
 refine sW ?_
 refine C1.im (jY s hs.2.1 hs.1) (by rfl) (by rfl) ?_
 simp only [tZ,↓un_u,simprocAttr,bne_iff_ne,bne_eq_false_iff_eq]
 refine ⟨fun h=>?_,fun h=>?_⟩
 ·rw [finI,if_pos (.inl h)]
  exact .oA [] []
 refine C1.im (Jd s h c) (by rfl) (by rfl) ?_
 refine sW ?_
 exact .oA [] []
theorem YB (s:Sch) (hs:Ze s) (c lev v:Int):Spc Tryz.prog ju [schT s,vI c,vI lev,vI v] [] (vI (qT s c lev v)) []:=by
 refine qd qv4 mixm (by simp) fun e _ hst=>qg ?_
 unfold QS
 refine sW ?_
 refine C1.im (yI s hs c) (by rfl) (by rfl) ?_
 refine sD ?_
 refine ⟨fun h=>?_,fun h=>?_⟩
 ·rw [qT,if_pos (qF5.2 (by omega))]
  exact .oA [] []
 obtain ⟨hE,c1,c2,hfin⟩:=Wb (s:=s) (c:=c) (by omega)
 have hok:=qZ hE
 obtain ⟨i,rfl⟩:=Int.eq_ofNat_of_zero_le (show 0≤c by omega)
 rw [Int.toNat_natCast] at hfin
 have hi:i < s.cols.length:=by omega
 have hat:qj s i = s.cols[i]:=by rw [qj,qk hi]
 have hk:=zf (hok.cs i hi)
 have hcd:=fun e=>hok.cdl hi e
 have hwd:=fun e l=>hok.wid hi (by omega) e (lev:=l)
 have hcl:qM s i = s.lists.getD s.cols[i].list.toNat default:=by rw [qM,hat]
 have hE2:qT s i lev v = if s.cols[i].kind = 2 then (if kI s i v = false then -1 else upC (qM s i) v lev)
  else if v≠qf5∧inB v (-1000000) 1000000 = false then -1
  else if lev = 0 then 0 else if v = qf5 then v else qK v (zm s.cols[i] lev) * zm s.cols[i] lev:=by
  rw [qT,if_neg (by rw [Bool.not_eq_false,Yy];omega),Int.toNat_natCast,hat]
 rw [hE2]
 rw [hat] at hk hcd hwd hfin
 rw [hcl] at hcd ⊢
 simp only [tZ,↓un_u,simprocAttr,Int.toNat_natCast,qe hi]
 have hho:=qU8 s hok i hi v
 generalize s.cols[i] = x at hk hcd hwd hfin hho ⊢
 refine ⟨by omega,?_⟩
 refine C2.im (fun _=>hho) (fun _=>rfl) (by rfl) ?_
 simp only [tZ,↓un_u,simprocAttr,tD,bne_iff_ne,bne_eq_false_iff_eq,Bool.not_eq_true',Bool.not_eq_false',beq_iff_eq,beq_eq_false_iff_ne]
 rw [show (-1099511627776:Int) = qf5 from rfl]
 refine ⟨fun h3=>?_,fun h3=>⟨fun h2=>?_,fun h2=>?_⟩⟩
 ·rw [if_pos h3.1,if_pos h3.2]
  exact .oA [] []
 ·rw [if_pos h2]
  obtain ⟨d1,d2⟩:=hcd h2
  obtain ⟨d3,d4⟩:=hk.2.2.2.1 h2
  have hgl:s.lists.getD x.list.toNat default = s.lists[x.list.toNat]:=qk d1
  rw [hgl] at d2 ⊢
  rw [if_neg (by grind)]
  simp only [tZ,↓un_u,simprocAttr,qe d1]
  generalize s.lists[x.list.toNat] = l at d2 ⊢
  refine ⟨by omega,?_⟩
  refine C1.im (YR l v lev) (by rfl) (by rfl) ?_
  refine sW ?_
  exact .oA [] []
 rw [if_neg h2]
 rw [if_neg h2] at hfin
 refine ⟨fun h3=>?_,fun h3=>?_⟩
 ·rw [if_pos ⟨by omega,qF5.2 (by omega)⟩]
  exact .oA [] []
 rw [if_neg (by rw [qF5];omega)]
 refine ⟨fun h4=>?_,fun h4=>?_⟩
 ·rw [if_pos h4]
  exact .oA [] []
 rw [if_neg h4]
 refine ⟨fun h5=>?_,fun h5=>?_⟩
 ·rw [if_pos h5,h5]
  exact .oA [] []
 rw [if_neg h5]
 obtain ⟨w1,w2,w3,w4,_⟩:=hwd h2 lev (by omega)
 refine C1.im (qc2 x lev (by omega) (by omega)) (by rfl) (by rfl) ?_
 refine sW ?_
 refine C1.im (Wh v (zm x lev) (by omega) (by omega)) (by rfl) (by rfl) ?_
 refine sW ?_
 exact .oA [] []
theorem qn3 (s:Sch) (hE:schE s = 0) (p:Pk):Spc Tryz.prog Zj [schT s,pkT p] [] (vI (QC s p)) []:=by
 have hP:QC s p = if finI s p.col < 0 then 7 else if inB p.lev 0 (finI s p.col) = false then 8 else 0:=by
  rw [QC,if_neg (by rw [hE];simp)]
  by_cases h:p.col < 1∨p.col≥s.cols.length
  ·rw [if_pos h,if_pos (by rw [finI,if_pos (by omega)];omega)]
  ·rw [if_neg h]
   have:0≤finI s p.col:=by
    rw [finI,if_neg (by omega)]
    split
    ·rename_i h2
     have hok:=qZ hE
     obtain ⟨_,d2⟩:=hok.cdl (i:=p.col.toNat) (by omega) h2
     rw [zi,if_neg (by rw [d2];simp)]
     omega
    ·omega
   rw [if_neg (show ¬ finI s p.col < 0 by omega)]
 rw [hP]
 refine qd qI8 mixm (by simp) fun e _ hst=>qg ?_
 unfold Jz
 refine sW ?_
 refine C1.im (Jd s hE p.col) (by rfl) (by rfl) ?_
 refine sD ?_
 refine ⟨fun h=>?_,fun h=>⟨fun h2=>?_,fun h2=>?_⟩⟩
 ·rw [if_pos h]
  exact .oA [] []
 ·rw [if_neg h,if_pos (qF5.2 (by omega))]
  exact .oA [] []
 ·rw [if_neg h,if_neg (by rw [qF5];omega)]
  exact .oA [] []
theorem qV1 (s:Sch) (hs:Ze s) (p:Pk):Spc Tryz.prog KH [schT s,pkT p] [] (vI (QC s p)) []:=by
 refine qd qK8 mixm (by simp) fun e _ hst=>qg ?_
 unfold JN
 refine sW ?_
 refine C1.im (jY s hs.2.1 hs.1) (by rfl) (by rfl) ?_
 simp only [tZ,↓un_u,simprocAttr,bne_iff_ne,bne_eq_false_iff_eq]
 refine ⟨fun h=>?_,fun h=>?_⟩
 ·rw [QC,if_pos h]
  exact .oA [] []
 refine C1.im (qn3 s h p) (by rfl) (by rfl) ?_
 refine sW ?_
 exact .oA [] []
theorem qL4 (s:Sch) (hs:Ze s) (l:List Pk) (hl:l.length < 4611686018427387904):Spc Tryz.prog Jq [schT s,vPs l] [] (vI (qm1 s l)) []:=by
 refine qd qC9 mixm (by simp) fun e _ hst=>qg ?_
 unfold ZK
 refine sW ?_
 refine C1.im (jY s hs.2.1 hs.1) (by rfl) (by rfl) ?_
 simp only [tZ,↓un_u,simprocAttr,bne_iff_ne,bne_eq_false_iff_eq]
 refine ⟨fun h=>?_,fun hE=>?_⟩
 ·rw [qm1,if_pos h]
  exact .oA [] []
 rw [qm1,if_neg (by rw [hE];simp)]
 refine qu mixm (α:=Nat) [16] (fun i=>i≤l.length∧(zx (zf8 s l) i = 0)) (fun i=>[(16,vI i)]) (fun i=>[(4096,.arr 2 [schT s] false)]) (fun i=>l.length - i) 0 ⟨by omega,?_⟩ ?_ fun i hi=>?_
 ·rfl
 ·exact .oA [(4096,some 4096)] []
 simp only [tZ,↓un_u,simprocAttr,decide_eq_true_eq,decide_eq_false_iff_not]
 refine ⟨fun h=>?_,fun h=>?_⟩
 ·have hi2:i < l.length:=by omega
  have hpi:pkAt l i = l[i]:=by rw [pkAt,qk hi2]
  have hstep:=Qn hi.2 hi2
  have hnext:=jT hi.2
  have hA:zf8 s l i = if QC s l[i]≠0 then QC s l[i] else if 0 < i∧l[i].col≤(pkAt l (i - 1)).col then 10 else 0:=by rw [zf8,hpi]
  have hi2:i < l.length:=by omega
  have hwi:=qh (i:=i) (by omega)
  simp only [tZ,↓un_u,simprocAttr,Int.toNat_natCast,qe hi2,hwi]
  refine ⟨by omega,?_⟩
  refine C1.im (qn3 s hE l[i]) (by rfl) (by rfl) ?_
  simp only [tZ,↓un_u,simprocAttr,bne_iff_ne,bne_eq_false_iff_eq]
  refine ⟨fun h3=>?_,fun h3=>?_⟩
  ·rw [if_pos h3] at hA
   rw [hstep (by rw [hA];exact h3),hA]
   exact .oA [] []
  rw [if_neg (by rw [h3];simp)] at hA
  rcases Nat.eq_zero_or_pos i with h0 | h0
  ·subst h0
   rw [if_neg (by omega)] at hA
   have hz:((0:Nat):Int) = 0:=rfl
   have hz2:(IntKind.i64.wrap (-1)).toNat = 0:=by decide
   have hz3:=qh (i:=0) (by omega)
   rw [hz] at hz3
   simp only [tZ,↓un_u,simprocAttr,Int.toNat_natCast,hz,beq_self_eq_true,gt_iff_lt,Int.lt_irrefl,Bool.true_and,hz2,qe hi2,hz3]
   refine ⟨by kernel_rfl,1,⟨by omega,by rw [hnext,hA]⟩,by omega,?_⟩
   exact .oA [(4096,some 4096)] []
  ·obtain ⟨k,rfl⟩:∃ k,i = k + 1:=⟨i - 1,by omega⟩
   have hk3:k < l.length:=by omega
   have e2:decide (((k + 1:Nat):Int) > 0) = true:=decide_eq_true (by omega)
   have e3:=yb (i:=k + 1) (by omega) (by omega)
   rw [Nat.add_sub_cancel] at e3 hA
   rw [pkAt,qk hk3] at hA
   simp only [tZ,↓un_u,simprocAttr,Int.toNat_natCast,qe hi2,qe hk3,e2,e3,hwi,tD]
   refine ⟨by omega,by kernel_rfl,fun h4=>?_,fun h4=>?_⟩
   ·rw [if_pos ⟨by omega,h4⟩] at hA
    rw [hstep (by rw [hA];simp),hA]
    exact .oA [] []
   ·rw [if_neg (by omega)] at hA
    refine ⟨k + 2,⟨by omega,by rw [hnext,hA]⟩,by omega,?_⟩
    exact .oA [(4096,some 4096)] []
 ·have hi2:i = l.length:=by omega
  subst hi2
  rw [hi.2]
  exact .oA [] []
theorem zx1 (a b:Int):maxI a b = max a b:=by unfold maxI;split <;> omega
theorem jj1 (a b:Int):minI a b = min a b:=by unfold minI;split <;> omega
end Go.Proofs
namespace Go.Proofs
open Go Go.TL
set_option maxHeartbeats 4000000
abbrev upN (cs:List Cod) (v x:Nat):Nat:=upF cs v (x + 1) x
theorem qV2 {cs:List Cod} {v x:Nat} (h:dep cs x≤v):upN cs v x = x:=zR3 h _
theorem zS9 {cs:List Cod} (hp:qE7 cs) {v:Nat}:∀ x,x < cs.length→v≤dep cs x→dep cs (upN cs v x) = v∧upN cs v x≤x:=by
 intro x
 induction x using Nat.strongRecOn with
 | _ x ih=>
   intro hx hv
   by_cases h:dep cs x≤v
   ·rw [qV2 h];exact ⟨by omega,Nat.le_refl _⟩
   ·obtain ⟨u1,u2,u3,u4⟩:=up_step hp (lev:=v) hx (by omega)
    have:=ih (parC cs x).toNat (by omega) (by omega) (by omega)
    rw [show upN cs v x = upN cs v (parC cs x).toNat from u4]
    exact ⟨this.1,by omega⟩
theorem zh3 {cs:List Cod} (hp:qE7 cs) {o v:Nat} (ho:o≤v):∀ x,x < cs.length→v≤dep cs x→upN cs o (upN cs v x) = upN cs o x:=by
 intro x
 induction x using Nat.strongRecOn with
 | _ x ih=>
   intro hx hv
   by_cases h:dep cs x≤v
   ·rw [qV2 h]
   ·obtain ⟨u1,u2,u3,u4⟩:=up_step hp (lev:=v) hx (by omega)
    obtain ⟨_,_,_,u5⟩:=up_step hp (lev:=o) hx (by omega)
    rw [show upN cs v x = upN cs v (parC cs x).toNat from u4,show upN cs o x = upN cs o (parC cs x).toNat from u5]
    exact ih (parC cs x).toNat (by omega) (by omega) (by omega)
theorem jc1 {l:CodL} (h:lstE l = 0):∀ (k c:Nat),l.codes.length - c = k→c < l.codes.length→∀ v,dep l.codes c≤v→(v:Int)≤zi l - 1→∃ d,d < l.codes.length∧dep l.codes d = v∧upN l.codes (dep l.codes c) d = c:=by
 intro k
 induction k using Nat.strongRecOn with
 | _ k ih=>
   intro c hk hc v hv ht
   by_cases e:dep l.codes c = v
   ·exact ⟨c,hc,e,qV2 (Nat.le_refl _)⟩
   obtain ⟨hp,h1,h2⟩:=zw h
   obtain ⟨t1,t2,t3⟩:=zm7 h hc
   cases hl:qf4 l.codes c with
   | true=>have:=t2 hl;omega
   | false=>
     have hn:¬ ∀ i,i < l.codes.length→parC l.codes i≠c:=fun k=>by rw [qU7.2 k] at hl;cases hl
     simp only [Classical.not_forall] at hn
     obtain ⟨i,hi,hn⟩:=hn
     have hpc:parC l.codes i = c:=Classical.byContradiction hn
     have h3:=hp i hi
     have h4:=qr3 hp hi (by omega)
     rw [hpc,Int.toNat_natCast] at h4
     obtain ⟨d,d1,d2,d3⟩:=ih (l.codes.length - i) (by omega) i rfl hi v (by omega) ht
     refine ⟨d,d1,d2,?_⟩
     have h5:=zh3 hp (o:=dep l.codes c) (v:=dep l.codes i) (by omega) d d1 (by omega)
     rw [← h5,d3]
     obtain ⟨_,_,_,u5⟩:=up_step hp (lev:=dep l.codes c) hi (by omega)
     rw [show upN l.codes (dep l.codes c) i = upN l.codes (dep l.codes c) (parC l.codes i).toNat from u5,hpc,Int.toNat_natCast]
     exact qV2 (Nat.le_refl _)
theorem jc2 {α:Type} [DecidableEq α]:∀ {a b:List α},a.Nodup→(∀ x∈a,x∈b)→a.length≤b.length
 | [],_,_,_=>Nat.zero_le _
 | x :: r,b,hn,hs=>by
   rw [List.nodup_cons] at hn
   have hx:=hs x (List.mem_cons_self ..)
   have:=jc2 (a:=r) (b:=b.erase x) hn.2 fun y hy=>(List.mem_erase_of_ne (fun e=>hn.1 (by rw [← e];exact hy))).2 (hs y (List.mem_cons_of_mem _ hy))
   rw [List.length_erase_of_mem hx] at this
   have:=List.length_pos_of_mem hx
   simp only [List.length_cons]
   omega
abbrev lvN (cs:List Cod) (v:Nat):List Nat:=(List.range cs.length).filter fun i=>(dep cs i:Int) == v
theorem Wi {cs:List Cod} {v x:Nat}:x∈lvN cs v↔x < cs.length∧dep cs x = v:=by
 rw [List.mem_filter,List.mem_range,beq_iff_eq];omega
theorem zT0 (cs:List Cod) (v:Nat):(lvN cs v).Nodup:=List.Nodup.sublist List.filter_sublist List.nodup_range
theorem jo2 {l:CodL} (h:lstE l = 0) (v:Nat):(atL l v).length = (lvN l.codes v).length:=by
 rw [atL,if_neg (by rw [h];simp),List.length_map]
theorem jj2 {l:CodL} (h:lstE l = 0) {o v:Nat} (ho:o≤v) (hv:(v:Int)≤zi l - 1):(lvN l.codes o).length≤(lvN l.codes v).length:=by
 obtain ⟨hp,h1,h2⟩:=zw h
 rw [show (lvN l.codes v).length = ((lvN l.codes v).map (upN l.codes o)).length by rw [List.length_map]]
 refine jc2 (zT0 _ _) fun c hc=>?_
 rw [Wi] at hc
 obtain ⟨d,d1,d2,d3⟩:=jc1 h _ c rfl hc.1 v (by omega) hv
 rw [hc.2] at d3
 exact List.mem_map.2 ⟨d,Wi.2 ⟨d1,d2⟩,d3⟩
theorem jt6 {l:CodL} (h:lstE l = 0) {o v:Nat} (ho:o≤v) (hv:(v:Int)≤zi l - 1):(lvN l.codes o).length = (lvN l.codes v).length↔∀ a b,a < l.codes.length→b < l.codes.length→dep l.codes a = v→dep l.codes b = v→upN l.codes o a = upN l.codes o b→a = b:=by
 obtain ⟨hp,h1,h2⟩:=zw h
 constructor
 ·intro e a b ha hb da db hab
  refine Classical.byContradiction fun hne=>?_
  have ma:a∈lvN l.codes v:=Wi.2 ⟨ha,da⟩
  have mb:b∈(lvN l.codes v).erase a:=(List.mem_erase_of_ne (fun e=>hne e.symm)).2 (Wi.2 ⟨hb,db⟩)
  have:=jc2 (a:=lvN l.codes o) (b:=((lvN l.codes v).erase a).map (upN l.codes o)) (zT0 _ _) fun c hc=>by
   rw [Wi] at hc
   obtain ⟨d,d1,d2,d3⟩:=jc1 h _ c rfl hc.1 v (by omega) hv
   rw [hc.2] at d3
   by_cases k:d = a
   ·exact List.mem_map.2 ⟨b,mb,by rw [← hab,← k,d3]⟩
   ·exact List.mem_map.2 ⟨d,(List.mem_erase_of_ne k).2 (Wi.2 ⟨d1,d2⟩),d3⟩
  rw [List.length_map,List.length_erase_of_mem ma] at this
  have:=List.length_pos_of_mem ma
  omega
 ·intro hi
  refine Nat.le_antisymm (jj2 h ho hv) ?_
  rw [show (lvN l.codes v).length = ((lvN l.codes v).map (upN l.codes o)).length by rw [List.length_map]]
  refine jc2 ?_ fun c hc=>?_
  ·rw [List.Nodup,List.pairwise_map]
   refine List.Pairwise.imp_of_mem ?_ (zT0 l.codes v)
   intro a b ha hb hne e
   rw [Wi] at ha hb
   exact hne (hi a b ha.1 hb.1 ha.2 hb.2 e)
  ·obtain ⟨d,hd,rfl⟩:=List.mem_map.1 hc
   rw [Wi] at hd
   have:=zS9 hp (v:=o) d hd.1 (by omega)
   exact Wi.2 ⟨by omega,this.1⟩
theorem qG6 {a k m:Int} (hk:1≤k) (hm:0≤m):qK a k≤qK (a + m) k∧qK (a + m) k≤qK a k + m:=by
 unfold qK
 rw [Int.fdiv_eq_ediv_of_nonneg _ (by omega),Int.fdiv_eq_ediv_of_nonneg _ (by omega)]
 have h1:=Int.mul_ediv_add_emod a k
 have h2:=Int.emod_nonneg a (b:=k) (by omega)
 have h3:=Int.emod_lt_of_pos a (b:=k) (by omega)
 have h4:=Int.mul_ediv_add_emod (a + m) k
 have h5:=Int.emod_nonneg (a + m) (b:=k) (by omega)
 have h6:=Int.emod_lt_of_pos (a + m) (b:=k) (by omega)
 constructor
 ·refine Classical.byContradiction fun c=>?_
  have:k * ((a + m) / k + 1)≤k * (a / k):=Int.mul_le_mul_of_nonneg_left (by omega) (by omega)
  rw [Int.mul_add] at this
  omega
 ·refine Classical.byContradiction fun c=>?_
  have:k * (a / k + m + 1)≤k * ((a + m) / k):=Int.mul_le_mul_of_nonneg_left (by omega) (by omega)
  rw [Int.mul_add,Int.mul_add] at this
  have h7:1 * m≤k * m:=Int.mul_le_mul_of_nonneg_right hk hm
  omega
theorem jt7 {a w k:Int} (hw:1≤w) (hk:1≤k):qK a (k * w) = qK (qK a w) k:=by
 have hkw:0≤k * w:=Int.mul_nonneg (by omega) (by omega)
 unfold qK
 rw [Int.fdiv_eq_ediv_of_nonneg _ (show 0≤w by omega),Int.fdiv_eq_ediv_of_nonneg _ (show 0≤k by omega),Int.fdiv_eq_ediv_of_nonneg _ hkw,Int.mul_comm,Int.ediv_ediv_of_nonneg (by omega)]
theorem zT1 {a k:Int} (hk:1≤k):(k ∣ a + 1→qK (a + 1) k = qK a k + 1)∧(¬ k ∣ a + 1→qK (a + 1) k = qK a k):=by
 unfold qK
 rw [Int.fdiv_eq_ediv_of_nonneg _ (by omega),Int.fdiv_eq_ediv_of_nonneg _ (by omega)]
 have h1:=Int.mul_ediv_add_emod a k
 have h2:=Int.emod_nonneg a (b:=k) (by omega)
 have h3:=Int.emod_lt_of_pos a (b:=k) (by omega)
 constructor
 ·rintro ⟨q,hq⟩
  rw [hq,Int.mul_ediv_cancel_left _ (by omega)]
  have:q = a / k + 1:=by
   have e:k * (q - (a / k + 1)) = a % k + 1 - k:=by rw [Int.mul_sub,Int.mul_add];omega
   have h4:q - (a / k + 1) = 0:=by
    refine Classical.byContradiction fun c=>?_
    rcases Int.lt_or_gt_of_ne c with c | c
    ·have:k * (q - (a / k + 1))≤k * (-1):=Int.mul_le_mul_of_nonneg_left (by omega) (by omega)
     omega
    ·have:k * 1≤k * (q - (a / k + 1)):=Int.mul_le_mul_of_nonneg_left (by omega) (by omega)
     omega
   omega
  exact this
 ·intro hn
  refine ((Int.ediv_emod_unique (r:=a % k + 1) (q:=a / k) (show 0 < k by omega)).2 ⟨by omega,by omega,?_⟩).1
  refine Classical.byContradiction fun c=>hn ⟨a / k + 1,?_⟩
  rw [Int.mul_add]
  omega
end Go.Proofs
