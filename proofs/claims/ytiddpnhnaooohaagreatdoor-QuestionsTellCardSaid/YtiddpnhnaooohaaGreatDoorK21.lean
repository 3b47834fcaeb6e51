/- A part of the proof: trees of Go values, short forms, contracts. -/
import Derived.WalkKit
import Derived.Still
import Derived.MapKept
import GoSem.Builtin.Cap
import Derived.Laws.Externs
import GoSem.Extern.SlicesOverlaps
import Derived.Carry
import Derived.ProofKit
import Derived.OpenShut
import Derived.HandedShaped
import Derived.Lay
import Derived.LaidLaws
import Derived.MakeChecks
import Derived.SevenTiedAt
import Derived.Test.YtiddpnhnaooohaaGreatDoorChecked
import Derived.Test.YtiddpnhnaooohaaGreatDoorK20
set_option linter.unusedSimpArgs false
set_option linter.unusedVariables false
namespace Go.Proofs
open Go Go.TL
set_option maxRecDepth 4000
set_option maxHeartbeats 8000000
def kiI (s:Sch) (c:Int):Int:=if c < 0∨c≥s.cols.length then 0 else (qh s c.toNat).kind
theorem jg7 {s:Sch} {c k:Int} (hk:k≠0):(kiI s c == k) = isB s c k:=by
 rw [Bool.eq_iff_iff,beq_iff_eq,zQ,kiI]
 split
 ·constructor
  ·intro h;omega
  ·intro h;omega
 ·constructor
  ·intro h;exact ⟨by omega,by omega,h⟩
  ·intro h;exact h.2.2
theorem zg5 {s:Sch} {c k:Int} (hk:k≠0):isB s c k = false↔kiI s c≠k:=by rw [← jg7 hk,beq_eq_false_iff_ne]
theorem jl3 {s:Sch} {c k:Int} (hk:k≠0):isB s c k = true↔kiI s c = k:=by rw [← jg7 hk,beq_iff_eq]
theorem zC (s:Sch) (c:Int):Spc Tryz.prog ze [schT s,vI c] [] (vI (kiI s c)) []:=by
 refine qd WX mixm (by simp) fun e _ hst=>qg ?_
 unfold ki
 refine sD ?_
 refine ⟨fun h=>?_,fun h=>?_⟩
 ·rw [kiI,if_pos (by omega)]
  exact .oA [] []
 obtain ⟨i,rfl⟩:=Int.eq_ofNat_of_zero_le (show 0≤c by omega)
 have hi:i < s.cols.length:=by omega
 rw [kiI,if_neg (by omega),Int.toNat_natCast,qh,qk hi]
 simp only [tZ,↓un_u,simprocAttr,Int.toNat_natCast,qe hi]
 refine ⟨by omega,?_⟩
 exact .oA [] []
theorem empC (c:Cnd):((c.op == 0) && (c.col == 0) && (c.code == 0) && (c.lo == 0) && (c.hi == 0) && ((c.kids.length:Int) == 0)) = JA c cnd0:=by
 rw [qT2]
 show _ = ((c.op == 0) && (c.col == 0) && (c.code == 0) && (c.lo == 0) && (c.hi == 0) && wh c.kids [])
 congr 1
 cases c.kids with
 | nil=>rfl
 | cons x r=>
   rw [wh]
   exact beq_eq_false_iff_ne.2 (by simp;omega)
theorem ZB (c:Cnd):Spc Tryz.prog jy [cnT c] [] (vB (JA c cnd0)) []:=by
 refine qd YK mixm (by simp) fun e _ hst=>qg ?_
 unfold kS
 refine sW ?_
 rw [← empC]
 exact .oA [] []
theorem Yg (x y:Pk):Spc Tryz.prog jb [pkT x,.ip (pkT y).cells] [] (vB (x.col == y.col)) []:=by
 refine qd Wk mixm (by simp) fun e _ hst=>qg ?_
 unfold jR
 refine sW ?_
 exact .oA [] []
def tabE (s:Sch) (q:Qst):Int:=if QS s q.dims≠0 then QS s q.dims else if q.meas≠-1∧isB s q.meas 3 = false then 7 else if 0 < q.terms.length∨JA q.event cnd0 = false then 11 else 0
theorem qd2 (s:Sch) (hs:QO s) (q:Qst):Spc Tryz.prog wt [schT s,qstT q] [] (vI (tabE s q)) []:=by
 have hT:tabE s q = if QS s q.dims≠0 then QS s q.dims else if q.meas≠-1∧isB s q.meas 3 = false then 7 else if 0 < q.terms.length∨JA q.event cnd0 = false then 11 else 0:=rfl
 have hTD:QS s q.dims≠0→tabE s q = QS s q.dims:=fun h=>by rw [hT,if_pos h]
 refine qd YE mixm (by simp) fun e _ hst=>qg ?_
 unfold kP
 refine sD ?_
 refine ⟨fun h=>?_,fun h=>?_⟩
 ·have:QS s q.dims = 1:=by rw [QS,if_pos (by omega)]
  rw [hTD (by rw [this];simp),this]
  exact .oA [] []
 have hD:QS s q.dims = jt (dimE s q.dims) q.dims.length:=by rw [QS,if_neg (by omega)]
 generalize tabE s q = E at hT hTD ⊢
 refine qw mixm (α:=Nat) [21] (fun i=>i≤q.dims.length∧(jt (dimE s q.dims) i = 0)) (fun i=>[(21,vI i)]) (fun i=>[(4096,.arr 2 [schT s] false),(4100,.arr 17 [qstT q] false)]) (fun i=>q.dims.length - i) 0 ⟨by omega,?_⟩ ?_ fun i hi=>?_
 ·rfl
 ·exact .oA [(4096,some 4096),(4100,some 4100)] []
 simp only [tZ,↓un_u,simprocAttr,decide_eq_true_eq,decide_eq_false_iff_not]
 refine ⟨fun h=>?_,fun h=>?_⟩
 ·have hi2:i < q.dims.length:=by omega
  have hpi:pkAt q.dims i = q.dims[i]:=by rw [pkAt,qk hi2]
  have hstep:=JU hi.2 hi2
  have hnext:=wC hi.2
  have hA:dimE s q.dims i = if QR s q.dims[i]≠0 then QR s q.dims[i] else if isB s q.dims[i].col 2 = false then 7 else if ((q.dims.take i).any fun x=>x.col == q.dims[i].col) = true then 10 else 0:=by rw [dimE,hpi]
  rw [← hD] at hstep
  have hbad:dimE s q.dims i≠0→E = dimE s q.dims i:=fun h=>by rw [hTD (by rw [hstep h];exact h),hstep h]
  have hi2:i < q.dims.length:=by omega
  have hwi:=qj (i:=i) (by omega)
  simp only [tZ,↓un_u,simprocAttr,Int.toNat_natCast,qe hi2,hwi]
  refine ⟨by omega,?_⟩
  refine C1.im (qT5 s hs q.dims[i]) (by rfl) (by rfl) ?_
  simp only [tZ,↓un_u,simprocAttr,bne_iff_ne,bne_eq_false_iff_eq]
  refine ⟨fun h3=>?_,fun h3=>?_⟩
  ·rw [if_pos h3] at hA
   rw [hbad (by rw [hA];exact h3),hA]
   exact .oA [] []
  rw [if_neg (by rw [h3];simp)] at hA
  refine C1.im (zC s q.dims[i].col) (by rfl) (by rfl) ?_
  have hki:=zg5 (s:=s) (c:=q.dims[i].col) (k:=2) (by decide)
  simp only [tZ,↓un_u,simprocAttr,bne_iff_ne,bne_eq_false_iff_eq]
  refine ⟨fun h4=>?_,fun h4=>?_⟩
  ·rw [if_pos (hki.2 h4)] at hA
   rw [hbad (by rw [hA];simp),hA]
   exact .oA [] []
  rw [if_neg (fun h=>hki.1 h h4)] at hA
  have hCF:=zU (fun x=>x.col == q.dims[i].col) jb [.ip (pkT q.dims[i]).cells] rfl (q.dims.take i) (fun x _=>Yg x q.dims[i]) (by rw [List.length_take];omega)
  refine ⟨by omega,?_⟩
  rw [qa4,qM4]
  refine C1.lend [24588] hCF ?_ (by rfl) (by rfl) ?_
  ·all_goals (try simp only [tL,simprocAttr,List.map_append,List.map_cons,List.map_nil,List.cons_append,List.nil_append])
   all_goals (try (repeat' (first | exact qT | (apply zj;intro _;exact ⟨rfl,rfl⟩) | (apply qz;intro _;exact ⟨rfl,rfl⟩) | with_reducible apply qJ | with_reducible refine qM ⟨rfl,rfl⟩ ?_ | exact qW | with_reducible apply qE | with_reducible refine qK ⟨rfl,rfl,?_⟩ ?_ | with_reducible apply And.intro | exact qG rfl | exact qG (by assumption) | (refine ⟨⟨?_,rfl,?_,rfl,?_⟩,trivial⟩ <;> first | (simp;done) | (apply qz;intro _;exact ⟨rfl,rfl⟩)) | trivial | rfl | (rw [qj (by omega)]) | omega)))
   simp only [ltP]
   exact ⟨rfl,by decide,rfl,qM ⟨rfl,rfl⟩ qW⟩
  simp only [tZ,↓un_u,simprocAttr,hwi]
  refine ⟨fun h5=>?_,fun h5=>?_⟩
  ·rw [if_pos h5] at hA
   rw [hbad (by rw [hA];simp),hA]
   exact .oA [] []
  ·rw [if_neg (by rw [h5];simp)] at hA
   refine ⟨i + 1,⟨by omega,by rw [hnext,hA]⟩,by omega,?_⟩
   exact .oA [(4096,some 4096),(4100,some 4100)] []
 ·have hi2:i = q.dims.length:=by omega
  subst hi2
  rw [← hD] at hi
  rw [if_neg (by rw [hi.2];simp)] at hT
  have hk:=zC s q.meas
  refine C2.im (fun _=>hk) (fun _=>rfl) (by rfl) ?_
  have hki:=zg5 (s:=s) (c:=q.meas) (k:=3) (by decide)
  simp only [tZ,↓un_u,simprocAttr,tD,bne_iff_ne,bne_eq_false_iff_eq]
  refine ⟨fun h5=>?_,fun h5=>?_⟩
  ·rw [if_pos (by grind)] at hT
   rw [hT]
   exact .oA [] []
  rw [if_neg (by grind)] at hT
  refine C2.im (fun _=>ZB q.event) (fun _=>rfl) (by rfl) ?_
  simp only [tZ,↓un_u,simprocAttr,tD,gt_iff_lt,Bool.not_eq_true',Bool.not_eq_false']
  refine ⟨fun h6=>?_,fun h6=>?_⟩
  ·rw [if_pos (by grind)] at hT
   rw [hT]
   exact .oA [] []
  ·rw [if_neg (by grind)] at hT
   rw [hT]
   exact .oA [] []
def modE (s:Sch) (q:Qst):Int:=if isB s q.meas 3 = false then 7 else if kI s q.meas q.terms≠0 then kI s q.meas q.terms else if 0 < q.dims.length∨JA q.event cnd0 = false then 11 else 0
theorem qd3 (s:Sch) (q:Qst):Spc Tryz.prog wu [schT s,qstT q] [] (vI (modE s q)) []:=by
 have hT:modE s q = if isB s q.meas 3 = false then 7 else if kI s q.meas q.terms≠0 then kI s q.meas q.terms else if 0 < q.dims.length∨JA q.event cnd0 = false then 11 else 0:=rfl
 generalize modE s q = E at hT ⊢
 have hki:=zg5 (s:=s) (c:=q.meas) (k:=3) (by decide)
 refine qd YG mixm (by simp) fun e _ hst=>qg ?_
 unfold kQ
 refine sW ?_
 refine C1.im (zC s q.meas) (by rfl) (by rfl) ?_
 simp only [tZ,↓un_u,simprocAttr,tD,bne_iff_ne,bne_eq_false_iff_eq]
 refine ⟨fun h=>?_,fun h=>?_⟩
 ·rw [if_pos (hki.2 h)] at hT
  rw [hT]
  exact .oA [] []
 rw [if_neg (fun k=>hki.1 k h)] at hT
 refine ⟨fun h2=>?_,fun h2=>?_⟩
 ·have:kI s q.meas q.terms = 1:=by rw [kI,if_pos (by omega)]
  rw [this,if_pos (by simp)] at hT
  rw [hT]
  exact .oA [] []
 have hD:kI s q.meas q.terms = jt (qC2 s q.meas q.terms) q.terms.length:=by rw [kI,if_neg (by omega)]
 have hTD:kI s q.meas q.terms≠0→E = kI s q.meas q.terms:=fun h=>by rw [hT,if_pos h]
 refine qw mixm (α:=Nat) [27] (fun i=>i≤q.terms.length∧(jt (qC2 s q.meas q.terms) i = 0)) (fun i=>[(27,vI i)]) (fun i=>[(4096,.arr 2 [schT s] false),(4100,.arr 17 [qstT q] false)]) (fun i=>q.terms.length - i) 0 ⟨by omega,?_⟩ ?_ fun i hi=>?_
 ·rfl
 ·exact .oA [(4096,some 4096),(4100,some 4100)] []
 simp only [tZ,↓un_u,simprocAttr,decide_eq_true_eq,decide_eq_false_iff_not]
 refine ⟨fun h=>?_,fun h=>?_⟩
 ·have hi2:i < q.terms.length:=by omega
  have hpi:q.terms.getD i 0 = q.terms[i]:=qk hi2
  have hstep:=JU hi.2 hi2
  have hnext:=wC hi.2
  have hA:qC2 s q.meas q.terms i = if isB s q.terms[i] 3 = false then 7 else if q.terms[i] = q.meas∨(q.terms.take i).contains q.terms[i] = true then 10 else 0:=by rw [qC2,hpi]
  rw [← hD] at hstep
  have hbad:qC2 s q.meas q.terms i≠0→E = qC2 s q.meas q.terms i:=fun h=>by rw [hTD (by rw [hstep h];exact h),hstep h]
  have hi2:i < q.terms.length:=by omega
  have hwi:=qj (i:=i) (by omega)
  simp only [tZ,↓un_u,simprocAttr,Int.toNat_natCast,qe hi2,hwi]
  refine ⟨by omega,?_⟩
  refine C1.im (zC s q.terms[i]) (by rfl) (by rfl) ?_
  have hki:=zg5 (s:=s) (c:=q.terms[i]) (k:=3) (by decide)
  simp only [tZ,↓un_u,simprocAttr,bne_iff_ne,bne_eq_false_iff_eq]
  refine ⟨fun h4=>?_,fun h4=>?_⟩
  ·rw [if_pos (hki.2 h4)] at hA
   rw [hbad (by rw [hA];simp),hA]
   exact .oA [] []
  rw [if_neg (fun h=>hki.1 h h4)] at hA
  have hCF:=Qb (q.terms.take i) q.terms[i] (by rw [List.length_take];omega)
  refine ⟨fun _=>by omega,?_⟩
  rw [qa4,qM4]
  refine C2.im (fun _=>hCF) (fun _=>rfl) (by rfl) ?_
  simp only [tZ,↓un_u,simprocAttr,hwi,tD,beq_iff_eq,beq_eq_false_iff_ne]
  refine ⟨fun h5=>?_,fun h5=>?_⟩
  ·rw [if_pos h5] at hA
   rw [hbad (by rw [hA];simp),hA]
   exact .oA [] []
  ·rw [if_neg (by grind)] at hA
   refine ⟨i + 1,⟨by omega,by rw [hnext,hA]⟩,by omega,?_⟩
   exact .oA [(4096,some 4096),(4100,some 4100)] []
 ·have hi2:i = q.terms.length:=by omega
  subst hi2
  rw [← hD] at hi
  rw [if_neg (by rw [hi.2];simp)] at hT
  refine C2.im (fun _=>ZB q.event) (fun _=>rfl) (by rfl) ?_
  simp only [tZ,↓un_u,simprocAttr,tD,gt_iff_lt,Bool.not_eq_true',Bool.not_eq_false']
  refine ⟨fun h6=>?_,fun h6=>?_⟩
  ·rw [if_pos (by grind)] at hT
   rw [hT]
   exact .oA [] []
  ·rw [if_neg (by grind)] at hT
   rw [hT]
   exact .oA [] []
def curE (s:Sch) (q:Qst):Int:=if isB s q.meas 3 = false then 7 else if (qh s q.meas.toNat).low < 0 then 2 else if chkC s q.event≠0 then chkC s q.event else if 0 < q.dims.length∨0 < q.terms.length then 11 else 0
theorem qd4 (s:Sch) (hs:QO s) (q:Qst):Spc Tryz.prog wv [schT s,qstT q] [] (vI (curE s q)) []:=by
 have hki:=zg5 (s:=s) (c:=q.meas) (k:=3) (by decide)
 refine qd YI mixm (by simp) fun e _ hst=>qg ?_
 unfold kR
 refine sW ?_
 refine C1.im (zC s q.meas) (by rfl) (by rfl) ?_
 simp only [tZ,↓un_u,simprocAttr,tD,bne_iff_ne,bne_eq_false_iff_eq]
 refine ⟨fun h=>?_,fun h=>?_⟩
 ·rw [curE,if_pos (hki.2 h)]
  exact .oA [] []
 rw [curE,if_neg (fun k=>hki.1 k h)]
 obtain ⟨b1,b2,b3⟩:=zQ.1 ((jl3 (by decide)).2 h)
 have hil:q.meas.toNat < s.cols.length:=by omega
 rw [qh,qk hil]
 simp only [tZ,↓un_u,simprocAttr,qe hil,tD]
 refine ⟨by omega,fun h4=>?_,fun h4=>?_⟩
 ·rw [if_pos h4]
  exact .oA [] []
 rw [if_neg h4]
 refine C1.im (yO s hs q.event) (by rfl) (by rfl) ?_
 simp only [tZ,↓un_u,simprocAttr,bne_iff_ne,bne_eq_false_iff_eq]
 refine ⟨fun h5=>?_,fun h5=>?_⟩
 ·rw [if_pos h5]
  exact .oA [] []
 rw [if_neg (by rw [h5];simp)]
 simp only [tZ,↓un_u,simprocAttr,tD,gt_iff_lt]
 refine ⟨fun h6=>?_,fun h6=>?_⟩
 ·rw [if_pos (by omega)]
  exact .oA [] []
 ·rw [if_neg (by omega)]
  exact .oA [] []
theorem jT (s:Sch) (hs:QO s) (q:Qst):Spc Tryz.prog zo [schT s,qstT q] [] (vI (qstE s q)) []:=by
 refine qd Kx mixm (by simp) fun e _ hst=>qg ?_
 unfold jB
 refine sW ?_
 refine C1.im (wg s hs.2.1 hs.1) (by rfl) (by rfl) ?_
 simp only [tZ,↓un_u,simprocAttr,bne_iff_ne,bne_eq_false_iff_eq]
 refine ⟨fun h=>?_,fun h=>?_⟩
 ·rw [qstE,if_pos h]
  exact .oA [] []
 rw [qstE,if_neg (by rw [h];simp)]
 refine C1.im (ZQ q.name) (by rfl) (by rfl) ?_
 simp only [tZ,↓un_u,simprocAttr,tD,Bool.not_eq_true',Bool.not_eq_false']
 refine ⟨fun h2=>?_,fun h2=>?_⟩
 ·rw [if_pos h2]
  exact .oA [] []
 rw [if_neg (by rw [h2];simp)]
 refine ⟨fun h3=>?_,fun h3=>?_⟩
 ·rw [if_pos (by omega)]
  exact .oA [] []
 rw [if_neg (by omega)]
 refine C1.im (yO s hs q.filt) (by rfl) (by rfl) ?_
 simp only [tZ,↓un_u,simprocAttr,bne_iff_ne,bne_eq_false_iff_eq,beq_iff_eq,beq_eq_false_iff_ne]
 refine ⟨fun h4=>?_,fun h4=>?_⟩
 ·rw [if_pos h4]
  exact .oA [] []
 rw [if_neg (by rw [h4];simp)]
 refine ⟨fun h5=>?_,fun h5=>⟨fun h6=>?_,fun h6=>?_⟩⟩
 ·refine C1.im (qd2 s hs q) (by rfl) (by rfl) ?_
  rw [show (if jI s q≠0 then jI s q else if (q.kind≠1∧0 < q.dims.length)∨(q.kind≠2∧0 < q.terms.length)∨(q.kind≠3∧JA q.event cnd0 = false) then 11 else 0) = tabE s q by
   rw [jI,if_pos h5,tabE]
   grind]
  refine sW ?_
  exact .oA [] []
 ·refine C1.im (qd3 s q) (by rfl) (by rfl) ?_
  rw [show (if jI s q≠0 then jI s q else if (q.kind≠1∧0 < q.dims.length)∨(q.kind≠2∧0 < q.terms.length)∨(q.kind≠3∧JA q.event cnd0 = false) then 11 else 0) = modE s q by
   rw [jI,if_neg h5,if_pos h6,modE]
   grind]
  refine sW ?_
  exact .oA [] []
 ·refine C1.im (qd4 s hs q) (by rfl) (by rfl) ?_
  rw [show (if jI s q≠0 then jI s q else if (q.kind≠1∧0 < q.dims.length)∨(q.kind≠2∧0 < q.terms.length)∨(q.kind≠3∧JA q.event cnd0 = false) then 11 else 0) = curE s q by
   rw [jI,if_neg h5,if_neg h6,curE]
   grind]
  refine sW ?_
  exact .oA [] []
end Go.Proofs
namespace Go.Proofs
open Go Go.TL
set_option maxRecDepth 4000
set_option maxHeartbeats 8000000
def usB (q:Qst) (k:Int):Bool:=decide (k > 0) && ze7 q k
theorem KZ (q:Qst) (k:Int) (ht:q.terms.length < 4611686018427387904):Spc Tryz.prog wj [qstT q,vI k] [] (vB (usB q k)) []:=by
 refine qd qn0 mixm (by simp) fun e _ hst=>qg ?_
 unfold yE
 refine sW ?_
 refine C2.im (fun _=>Qb q.terms k ht) (fun _=>rfl) (by rfl) ?_
 refine sW ?_
 rw [show (decide (k > 0) && ((q.meas == k) || q.terms.contains k)) = usB q k from rfl]
 exact .oA [] []
def cnsL (q:Qst):List Cnd:=if q.kind = 3 then [q.filt,q.event] else [q.filt]
theorem JY (q:Qst):Spc Tryz.prog ky [qstT q] [] (vCs (cnsL q)) []:=by
 refine qd qh1 mixm (by simp) fun e _ hst=>qg ?_
 unfold yf
 simp only [tZ,↓un_u,simprocAttr,beq_iff_eq,beq_eq_false_iff_ne]
 refine ⟨fun h=>?_,fun h=>?_⟩
 ·rw [cnsL,if_pos h]
  show Qd [] _ _ (.sl 6 [cndT q.filt,cndT q.event]) []
  rw [zg,zg]
  exact .oA [] [12304]
 ·rw [cnsL,if_neg h]
  show Qd [] _ _ (.sl 6 [cndT q.filt]) []
  rw [zg]
  exact .oA [] [16392]
def canB (s:Sch) (c v:Int):Bool:=decide (1≤c) && decide (c < s.cols.length) && zN s c.toNat v
theorem zZ8 {s:Sch} (hE:schE s = 0) {i:Nat} (h0:0 < i) (hi:i < s.cols.length) (v:Int):((qT7 s i (finI s i) v).2 && ((qT7 s i (finI s i) v).1 == v)) = zN s i v:=by
 have hok:=qZ hE
 have hk:=za (hok.cs i hi)
 have h1:=hk.2.2.1 h0
 by_cases h2:(qh s i).kind = 2
 ·rw [qT7,if_neg (by omega)]
  have hself:∀ l∈qQ s i,upC (qH s i) l (finI s i) = l:=fun l hl=>by
   have h3:=qd1 hE h0 hi h2 hl
   have h4:=QX h2 (hok.cdl hi h2).2 hl
   have h5:0≤finI s i:=by
    obtain ⟨_,d2⟩:=hok.cdl hi h2
    rw [finI,if_neg (by omega),Int.toNat_natCast,if_pos h2,qj1 d2];omega
   rw [qO,if_neg (by rw [Bool.not_eq_false,QA];omega),Int.toNat_natCast,if_pos h2,if_neg (by rw [h4];simp)] at h3
   exact h3
  cases hf:(qQ s i).find? fun l=>upC (qH s i) l (finI s i) == v with
  | none=>
    rw [List.find?_eq_none] at hf
    show false = _
    symm
    cases hh:zN s i v with
    | false=>rfl
    | true=>
      rw [zN,if_neg (by omega),if_pos h2,Bool.and_eq_true,QA,beq_iff_eq] at hh
      obtain ⟨⟨g1,g2⟩,g3⟩:=hh
      obtain ⟨c,rfl⟩:=Int.eq_ofNat_of_zero_le g1
      obtain ⟨_,d2⟩:=hok.cdl hi h2
      rw [lvlC,if_neg (not_or.2 ⟨fun h=>h d2,by omega⟩),Int.toNat_natCast] at g3
      have hm:=(JV hok hi h2).2 ⟨c,rfl,by omega,g3⟩
      have:=hf _ hm
      rw [hself _ hm] at this
      simp at this
  | some l=>
    have h3:=List.mem_of_find?_eq_some hf
    have h4:=List.find?_some hf
    rw [hself l h3,beq_iff_eq] at h4
    subst h4
    show (true && (l == l)) = _
    rw [QX h2 (hok.cdl hi h2).2 h3]
    simp
 ·have h3:(qh s i).kind = 3:=by omega
  have hm:=hk.2.2.2.2 h3
  have hwl:1≤(qh s i).widths.length:=by unfold measE at hm;grind
  have hf:finI s i = (qh s i).widths.length:=by rw [finI,if_neg (by omega),Int.toNat_natCast,if_neg h2]
  obtain ⟨_,_,_,_,w5,w6,w7,w8⟩:=hok.wid hi h0 h2 (lev:=(qh s i).widths.length) (by omega)
  have hS:qT7 s i (qh s i).widths.length v = if 0 < ((qh s i).widths.length:Int)∧v = kT then (v,(qh s i).opt) else ((qo7 (qh s i) (qh s i).widths.length v).1,(qo7 (qh s i) (qh s i).widths.length v).2.2):=by rw [qT7,if_pos h3]
  have hH:zN s i v = (((qh s i).opt && (v == kT)) || inB v (qh s i).low (qh s i).high):=by rw [zN,if_neg (by omega),if_neg h2]
  rw [hf,hS,hH]
  generalize qh s i = x at w5 w6 w7 w8 hwl ⊢
  by_cases hv:v = kT
  ·subst hv
   rw [if_pos ⟨by omega,rfl⟩,show inB kT x.low x.high = false from qj3.2 (.inl (by unfold kT;omega))]
   simp
  ·rw [if_neg (fun h=>hv h.2),beq_eq_false_iff_ne.2 hv,Bool.and_false,Bool.false_or,qo7,if_neg (by omega)]
   by_cases hr:v < -2000000∨v > 1000000
   ·rw [if_pos hr,show inB v x.low x.high = false from qj3.2 (by omega)]
    rfl
   ·rw [if_neg hr,w8]
    have:qA v 1 * 1 = v:=by unfold qA;simp
    dsimp only
    rw [this,beq_self_eq_true,Bool.true_and,Bool.eq_iff_iff,Bool.and_eq_true,decide_eq_true_eq,beq_iff_eq,QA]
    omega
theorem Yh (s:Sch) (hE:schE s = 0) (c v:Int):Spc Tryz.prog wO [schT s,vI c,vI v] [] (vB (canB s c v)) []:=by
 have hok:=qZ hE
 refine qd qr9 mixm (by simp) fun e _ hst=>qg ?_
 unfold Qk
 refine sD ?_
 refine ⟨fun h=>?_,fun h=>?_⟩
 ·rw [show canB s c v = false by
   unfold canB
   rw [show (decide (1≤c) && decide (c < s.cols.length)) = false by rw [Bool.and_eq_false_iff,decide_eq_false_iff_not,decide_eq_false_iff_not];omega]
   rfl]
  exact .oA [] []
 obtain ⟨i,rfl⟩:=Int.eq_ofNat_of_zero_le (show 0≤c by omega)
 have hi:i < s.cols.length:=by omega
 rw [show canB s i v = zN s i v by unfold canB;rw [decide_eq_true (by omega),decide_eq_true (by omega),Int.toNat_natCast];rfl]
 rw [← zZ8 hE (by omega) hi]
 refine C1.im (yo s hok.sm i) (by rfl) (by rfl) ?_
 refine sW ?_
 have hf0:0≤finI s i:=by
  rw [finI,if_neg (by omega),Int.toNat_natCast]
  split
  ·rename_i h2
   obtain ⟨_,d2⟩:=hok.cdl hi h2
   rw [qj1 d2];omega
  ·omega
 refine C1.im (qT8 s hE i hi (by omega) (finI s i) v ⟨hf0,by omega⟩) (by rfl) (by rfl) ?_
 refine sW ?_
 repeat (first | refine ⟨by omega,?_⟩ | refine ⟨by kernel_rfl,?_⟩)
 exact .oA [] []
def zA6 (s:Sch) (q:Qst) (k a b:Int):Bool:=(usB q k && (a != b)) || (q.dims.any fun d=>(d.col == k) && (qO s k d.lev a != qO s k d.lev b)) || ((cnsL q).any fun c=>(atsC c).any fun x=>(x.col == k) && (zT s x a != zT s x b))
theorem zZ9 {s:Sch} {q:Qst} (h:qstE s q = 0):schE s = 0∧(∀ c∈cnsL q,chkC s c = 0)∧q.dims.length≤3∧q.terms.length≤3:=by
 unfold qstE at h
 split at h
 ·rename_i h1;exact absurd h h1
 rename_i h1
 split at h
 ·cases h
 split at h
 ·cases h
 split at h
 ·rename_i h4;exact absurd h h4
 rename_i h4
 split at h
 ·rename_i h5;exact absurd h h5
 rename_i h5
 split at h
 ·cases h
 rename_i h6
 refine ⟨Classical.byContradiction h1,fun c hc=>?_,?_,?_⟩
 ·unfold cnsL at hc
  split at hc
  ·rename_i h7
   rcases List.mem_cons.1 hc with e | hc
   ·rw [e];exact Classical.byContradiction h4
   ·rw [List.mem_singleton.1 hc]
    refine Classical.byContradiction fun k=>h5 ?_
    rw [jI,if_neg (by omega),if_neg (by omega)]
    split
    ·simp
    ·split
     ·simp
     ·exact k
  ·rw [List.mem_singleton.1 hc];exact Classical.byContradiction h4
 ·by_cases h7:q.kind = 1
  ·refine Classical.byContradiction fun k=>h5 ?_
   rw [jI,if_pos h7,if_pos] <;> rw [QS,if_pos (by omega)] <;> simp
  ·refine Classical.byContradiction fun k=>h6 (.inl ⟨h7,by omega⟩)
 ·by_cases h7:q.kind = 2
  ·refine Classical.byContradiction fun k=>h5 ?_
   rw [jI,if_neg (by omega),if_pos h7]
   split
   ·simp
   ·rw [kI,if_pos (by omega)];simp
  ·refine Classical.byContradiction fun k=>h6 (.inr (.inl ⟨h7,by omega⟩))
end Go.Proofs
namespace Go.Proofs
open Go Go.TL
set_option maxRecDepth 4000
set_option maxHeartbeats 8000000
def mxl:List Pk→Int→Int
 | [],_=>0
 | p :: r,k=>if p.col = k then max p.lev (mxl r k) else mxl r k
theorem qd5:∀ (l:List Pk) (k:Int),0≤mxl l k
 | [],_=>Int.le_refl _
 | p :: r,k=>by
   have:=qd5 r k
   rw [mxl]
   split <;> omega
theorem qU6:∀ (a b:List Pk) (k:Int),mxl (a ++ b) k = max (mxl a k) (mxl b k)
 | [],b,k=>by
   have:=qd5 b k
   rw [List.nil_append,mxl];omega
 | p :: r,b,k=>by
   have:=qU6 r b k
   rw [List.cons_append,mxl,mxl,this]
   split <;> omega
theorem ja0 (l:List Pk) (p:Pk) (k:Int):mxl (l ++ [p]) k = if p.col = k then max (mxl l k) p.lev else mxl l k:=by
 have:=qd5 l k
 rw [qU6,mxl,mxl]
 split <;> omega
theorem qk4:∀ {l:List Pk} {k:Int},(∀ p∈l,p.col≠k)→mxl l k = 0
 | [],_,_=>rfl
 | p :: r,k,h=>by
   rw [mxl,if_neg (h p (by simp)),qk4 fun x hx=>h x (List.mem_cons_of_mem _ hx)]
theorem zv9 {f:Nat→Int} (hf:∀ k,0≤f k):∀ {n:Nat} (k:Nat),mxl (canF f n) k = if k < n then f k else 0
 | 0,k=>by rw [if_neg (by omega)];rfl
 | n + 1,k=>by
   have ih:=zv9 hf (n:=n) k
   have hk:=hf k
   have hn:=hf n
   rw [canF,qU6,ih]
   by_cases e:n = k
   ·subst e
    rw [if_neg (show ¬ n < n by omega),if_pos (show n < n + 1 by omega)]
    split
    ·have:mxl [(⟨(n:Nat),f n⟩:Pk)] n = max (f n) 0:=by rw [mxl,if_pos rfl];rfl
     rw [this];omega
    ·rw [mxl];omega
   ·have h0:mxl (if 0 < f n then [(⟨n,f n⟩:Pk)] else []) k = 0:=qk4 fun p hp=>by
     split at hp
     ·rw [List.mem_singleton.1 hp];dsimp only;omega
     ·simp at hp
    rw [h0]
    by_cases h:k < n
    ·rw [if_pos h,if_pos (by omega)];omega
    ·rw [if_neg h,if_neg (by omega)];omega
theorem qp6 {n:Nat}:∀ (l:List Pk) {f:Nat→Int},(∀ k,0≤f k)→(∀ p∈l,0≤p.col∧p.col < n)→Yd (canF f n) l = canF (fun k=>max (f k) (mxl l k)) n
 | [],f,hf,_=>by
   show canF f n = _
   exact JX fun k _=>by have:=hf k;rw [mxl];omega
 | p :: r,f,hf,h=>by
   obtain ⟨h1,h2⟩:=h p (by simp)
   obtain ⟨c,hc⟩:=Int.eq_ofNat_of_zero_le h1
   have e:Yd (canF f n) (p :: r) = Yd (YM (canF f n) p.col p.lev) r:=rfl
   rw [e,hc,qN8 hf (by omega),qp6 r (fun k=>by have:=hf k;unfold upd;split <;> omega) fun x hx=>h x (List.mem_cons_of_mem _ hx)]
   refine JX fun k _=>?_
   have:=hf k
   have h3:=qd5 r k
   unfold upd
   rw [mxl,hc]
   by_cases e:k = c
   ·subst e
    rw [if_pos rfl,if_pos rfl];omega
   ·rw [if_neg e,if_neg (by omega)]
theorem zA7 (n:Nat):canF (fun _=>0) n = []:=qC7 fun _ _=>Int.le_refl _
theorem zR4 {n:Nat} {l:List Pk} (h:∀ p∈l,0≤p.col∧p.col < n):Yd [] l = canF (fun k=>mxl l k) n:=by
 rw [← zA7 n,qp6 l (fun _=>Int.le_refl _) h]
 exact JX fun k _=>by have:=qd5 l k;omega
theorem qD0 (a l m:List Pk):Yd a (l ++ m) = Yd (Yd a l) m:=List.foldl_append
theorem zg6 {α:Type} (f:α→Pk) (m:List α):∀ l,Yd l (m.map f) = m.foldl (fun l x=>YM l (f x).col (f x).lev) l:=by
 induction m with
 | nil=>intro l;rfl
 | cons x r ih=>intro l;exact ih _
def atP (s:Sch) (c:Cnd):List Pk:=(atsC c).map fun a=>⟨a.col,decN s a⟩
theorem zl8 {s:Sch} {c:Cnd} (h:chkC s c = 0):jH s c = Yd [] (atP s c):=by
 rw [jH,if_neg (by rw [h];simp),atP,zg6]
theorem qp7 {s:Sch} {c:Cnd} (h:chkC s c = 0):jH s c = canF (fun k=>mxl (atP s c) k) s.cols.length∧∀ p∈atP s c,1≤p.col∧p.col < s.cols.length:=by
 obtain ⟨hE,k2,k3,k4⟩:=qp1 h
 have hb:∀ p∈atP s c,1≤p.col∧p.col < s.cols.length:=fun p hp=>by
  obtain ⟨a,ha,rfl⟩:=List.mem_map.1 hp
  obtain ⟨hnd,hia⟩:=qN4 c k4 a ha
  obtain ⟨n1,n2,n3⟩:=zf6 hE hnd hia
  obtain ⟨_,c1,c2,_⟩:=JB (s:=s) (c:=a.col) (by omega)
  exact ⟨c1,c2⟩
 refine ⟨?_,hb⟩
 rw [zl8 h]
 exact zR4 fun p hp=>by have:=hb p hp;omega
theorem ja1 {s:Sch} {c:Cnd} (h:chkC s c = 0):∀ p∈jH s c,1≤p.col∧p.col < s.cols.length:=fun p hp=>by
 obtain ⟨h1,h2⟩:=qp7 h
 rw [h1,zv7] at hp
 obtain ⟨k,k1,k2,rfl⟩:=hp
 refine ⟨?_,by dsimp only;omega⟩
 dsimp only
 by_cases e:k = 0
 ·subst e
  rw [qk4 fun q hq=>by have:=h2 q hq;omega] at k2
  omega
 ·omega
theorem zR5 {s:Sch} {c:Cnd} (h:chkC s c = 0) (k:Nat):mxl (jH s c) k = mxl (atP s c) k:=by
 obtain ⟨h1,h2⟩:=qp7 h
 rw [h1,zv9 fun k=>qd5 _ _]
 split
 ·rfl
 ·exact (qk4 fun q hq=>by have:=h2 q hq;omega).symm
def dmP (s:Sch) (q:Qst):List Pk:=q.dims.map fun d=>⟨d.col,ZR s d.col d.lev⟩
def usP (s:Sch) (q:Qst) (n:Nat):List Pk:=((List.range n).filter fun k:Nat=>usB q k).map fun k:Nat=>⟨k,ZR s k (finI s k)⟩
theorem qU7 (s:Sch) (q:Qst) (n:Nat):usP s q (n + 1) = usP s q n ++ if usB q n = true then [⟨n,ZR s n (finI s n)⟩] else []:=by
 rw [usP,List.range_succ,List.filter_append,List.map_append,← usP]
 congr 1
 by_cases h:usB q n = true
 ·rw [if_pos h,List.filter_cons_of_pos (p:=fun k:Nat=>usB q k) h];rfl
 ·rw [if_neg h,List.filter_cons_of_neg (p:=fun k:Nat=>usB q k) h];rfl
theorem zw0 (s:Sch) (q:Qst) (l:List Pk):∀ n:Nat,(List.range n).foldl (qr3 s q) l = Yd l (usP s q (n + 1))
 | 0=>by
   show l = _
   have h0:usB q (0:Nat) = false:=by simp [usB]
   rw [qU7,h0,if_neg (by simp)];rfl
 | n + 1=>by
   rw [List.range_succ,List.foldl_append,zw0 s q l n,qU7 _ _ (n + 1),qD0]
   show qr3 s q _ n = _
   have h:usB q ((n + 1:Nat):Int) = ze7 q ((n:Int) + 1):=by
    unfold usB
    rw [decide_eq_true (by omega),Bool.true_and];rfl
   rw [qr3,h]
   split <;> rfl
def evP (s:Sch) (q:Qst):List Pk:=if q.kind = 3 then jH s q.event else []
theorem zl9 {s:Sch} {q:Qst} (h:qstE s q = 0):qC3 s q = Yd (jH s q.filt) (evP s q ++ dmP s q ++ usP s q s.cols.length):=by
 have hq:=qC9 h
 have hnc:=(qZ hq.sch).nc
 rw [qC3,if_neg (by rw [h];simp),jk6,zw0,show s.cols.length - 1 + 1 = s.cols.length by omega,qD0,qD0,dmP,zg6,evP]
 congr 2
 split <;> rfl
end Go.Proofs
namespace Go.Proofs
open Go Go.TL
set_option maxRecDepth 4000
set_option maxHeartbeats 8000000
theorem qu0 (s:Sch) (hok:SchOk s) (q:Qst) (hd:q.dims.length≤3) (ht:q.terms.length≤3) (hc:∀ c∈cnsL q,chkC s c = 0) (k a b:Int):Spc Tryz.prog Qf [schT s,qstT q,vI k,vI a,vI b] [] (vB (zA6 s q k a b)) []:=by
 have hs:=hok.sm
 have hT:zA6 s q k a b = ((usB q k && (a != b)) || (q.dims.any fun d=>(d.col == k) && (qO s k d.lev a != qO s k d.lev b)) || ((cnsL q).any fun c=>(atsC c).any fun x=>(x.col == k) && (zT s x a != zT s x b))):=rfl
 have hcl:(cnsL q).length≤2:=by unfold cnsL;split <;> simp
 rw [hT]
 refine qd qm6 mixm (by simp) fun e _ hst=>qg ?_
 unfold yC
 refine sW ?_
 refine C1.im (KZ q k (by omega)) (by rfl) (by rfl) ?_
 refine sW ?_
 generalize (usB q k && (a != b)) = U
 refine ⟨fun h=>?_,fun h=>?_⟩
 ·rw [h]
  exact .oA [] []
 rw [h,Bool.false_or]
 refine qw mixm (α:=Nat) [28] (fun i=>i≤q.dims.length∧((q.dims.take i).any fun d=>(d.col == k) && (qO s k d.lev a != qO s k d.lev b)) = false) (fun i=>[(28,vI i)]) (fun i=>[(4096,.arr 2 [schT s] false),(4100,.arr 17 [qstT q] false)]) (fun i=>q.dims.length - i) 0 ⟨by omega,rfl⟩ ?_ fun i hi=>?_
 ·exact .oA [(4096,some 4096),(4100,some 4100)] []
 refine sD ?_
 refine ⟨fun h3=>?_,fun h3=>?_⟩
 ·have hi2:i < q.dims.length:=by omega
  have hwi:=qj (i:=i) (by omega)
  simp only [tZ,↓un_u,simprocAttr,Int.toNat_natCast,qe hi2]
  refine ⟨by omega,?_⟩
  have hC:=fun v=>qC4 s hs k q.dims[i].lev v
  refine C2.im (fun _=>hC a) (fun _=>rfl) (by rfl) ?_
  refine sW ?_
  refine C2.im (fun _=>hC b) (fun _=>rfl) (by rfl) ?_
  simp only [tZ,↓un_u,simprocAttr,hwi]
  repeat (first | refine ⟨by omega,?_⟩ | refine ⟨by kernel_rfl,?_⟩)
  refine ⟨fun h4=>?_,fun h4=>?_⟩
  ·rw [qf3 hi2 h4,Bool.true_or]
   exact .oA [] []
  ·refine ⟨i + 1,⟨by omega,zY hi2 hi.2 h4⟩,by omega,?_⟩
   exact .oA [(4096,some 4096),(4100,some 4100)] []
 ·have hil:i = q.dims.length:=by omega
  subst hil
  have hi2:=hi.2
  rw [List.take_length] at hi2
  rw [hi2,Bool.false_or]
  refine C1.im (JY q) (by rfl) (by rfl) ?_
  generalize cnsL q = L at hc hcl ⊢
  refine sW ?_
  refine qw mixm (α:=Nat) [55] (fun i=>i≤L.length∧((L.take i).any fun c=>(atsC c).any fun x=>(x.col == k) && (zT s x a != zT s x b)) = false) (fun i=>[(55,vI i)]) (fun i=>[(4096,.arr 2 [schT s] false)]) (fun i=>L.length - i) 0 ⟨by omega,rfl⟩ ?_ fun i hi=>?_
  ·exact .oA [(4096,some 4096)] []
  refine sD ?_
  refine ⟨fun h4=>?_,fun h4=>?_⟩
  ·have hi2:i < L.length:=by omega
   have hwi:=qj (i:=i) (by omega)
   obtain ⟨_,k2,_,k4⟩:=qp1 (hc _ (List.getElem_mem hi2))
   have hal:=JD L[i] 41 (by omega) k2
   have hao:=qN4 L[i] k4
   have hhit:(((atsC L[i]).any fun x=>(x.col == k) && (zT s x a != zT s x b)) = true)→(L.any fun c=>(atsC c).any fun x=>(x.col == k) && (zT s x a != zT s x b)) = true:=fun h=>qf3 hi2 h
   have hgo:(((atsC L[i]).any fun x=>(x.col == k) && (zT s x a != zT s x b)) = false)→((L.take (i + 1)).any fun c=>(atsC c).any fun x=>(x.col == k) && (zT s x a != zT s x b)) = false:=fun h=>zY hi2 hi.2 h
   simp only [tZ,↓un_u,simprocAttr,Int.toNat_natCast,qe hi2,zg]
   refine ⟨by omega,?_⟩
   refine C1.im (JW L[i] 41 (by omega) (by omega) k2) (by rfl) (by rfl) ?_
   generalize atsC L[i] = A at hal hao hhit hgo ⊢
   refine sW ?_
   refine qw mixm (α:=Nat) [62] (fun j=>j≤A.length∧((A.take j).any fun x=>(x.col == k) && (zT s x a != zT s x b)) = false) (fun j=>[(62,vI j)]) (fun j=>[(4096,.arr 2 [schT s] false)]) (fun j=>A.length - j) 0 ⟨by omega,rfl⟩ ?_ fun j hj=>?_
   ·exact .oA [(4096,some 4096)] []
   refine sD ?_
   refine ⟨fun h5=>?_,fun h5=>?_⟩
   ·have hj2:j < A.length:=by omega
    have hwj:=qj (i:=j) (by omega)
    obtain ⟨hnd,ha⟩:=hao _ (List.getElem_mem hj2)
    have hAt:=KX s hok A[j] hnd ha
    simp only [tZ,↓un_u,simprocAttr,Int.toNat_natCast,qe hj2,zg]
    refine ⟨by omega,?_⟩
    refine C2.im (fun _=>hAt a) (fun _=>rfl) (by rfl) ?_
    refine sW ?_
    refine C2.im (fun _=>hAt b) (fun _=>rfl) (by rfl) ?_
    simp only [tZ,↓un_u,simprocAttr,hwj]
    repeat (first | refine ⟨by omega,?_⟩ | refine ⟨by kernel_rfl,?_⟩)
    refine ⟨fun h6=>?_,fun h6=>?_⟩
    ·rw [hhit (qf3 hj2 h6)]
     exact .oA [] []
    ·refine ⟨j + 1,⟨by omega,zY hj2 hj.2 h6⟩,by omega,?_⟩
     exact .oA [(4096,some 4096)] []
   ·have hjl:j = A.length:=by omega
    subst hjl
    have hj2:=hj.2
    rw [List.take_length] at hj2
    simp only [tZ,↓un_u,simprocAttr,hwi]
    refine ⟨i + 1,⟨by omega,hgo hj2⟩,by omega,?_⟩
    exact .oA [(4096,some 4096)] []
  ·have hil:i = L.length:=by omega
   subst hil
   have hi2:=hi.2
   rw [List.take_length] at hi2
   rw [hi2]
   exact .oA [] []
def Yi (s:Sch) (q:Qst) (k a b:Int):Bool:=(qstE s q == 0) && canB s k a && canB s k b && zA6 s q k a b
theorem JZ (s:Sch) (hs:QO s) (q:Qst) (k a b:Int):Spc Tryz.prog zq [schT s,qstT q,vI k,vI a,vI b] [] (vB (Yi s q k a b)) []:=by
 refine qd qf8 mixm (by simp) fun e _ hst=>qg ?_
 unfold wZ
 refine sW ?_
 refine C1.im (jT s hs q) (by rfl) (by rfl) ?_
 by_cases h0:qstE s q = 0
 ·obtain ⟨hE,hc,hd,ht⟩:=zZ9 h0
  simp only [tZ,↓un_u,simprocAttr,h0,beq_self_eq_true]
  refine C2.im (fun _=>Yh s hE k a) (fun _=>rfl) (by rfl) ?_
  refine sW ?_
  refine C2.im (fun _=>Yh s hE k b) (fun _=>rfl) (by rfl) ?_
  refine sW ?_
  refine C2.im (fun _=>qu0 s (qZ hE) q hd ht hc k a b) (fun _=>rfl) (by rfl) ?_
  refine sW ?_
  rw [show Yi s q k a b = (canB s k a && canB s k b && zA6 s q k a b) by rw [Yi,h0];simp]
  exact .oA [] []
 ·have e:(qstE s q == 0) = false:=beq_eq_false_iff_ne.2 h0
  rw [show Yi s q k a b = false by rw [Yi,e];rfl]
  simp only [tZ,↓un_u,simprocAttr,e]
  refine C2.no (by simp) ?_
  refine sW ?_
  refine C2.no (by simp) ?_
  refine sW ?_
  refine C2.no (by simp) ?_
  refine sW ?_
  exact .oA [] []
end Go.Proofs
namespace Go.Proofs
open Go Go.TL
set_option maxRecDepth 4000
set_option maxHeartbeats 8000000
theorem qJ4 (c:Cnd) (m:Int) (hm:1≤m) (hm2:m≤1000) (hc:cntC c m < m):Spc Tryz.prog kz [cnT c] [] (.asl 0 (atsC c).length) [(0,.arr 6 ((atsC c).map cndT) false)]:=by
 have hal:=JD c m hm hc
 rw [Qw] at hc hal
 obtain ⟨hk1,hk2⟩:=Yw (by omega) hc
 have hi:isAt c = ((c.op == 2) || (c.op == 3) || (c.op == 4)):=rfl
 refine qd YW mixm (by simp) fun e _ hst=>qg ?_
 unfold yU
 refine sW ?_
 rw [← hi]
 refine ⟨fun h=>?_,fun h=>?_⟩
 ·rw [KP,if_pos h]
  show Qd [] _ _ (.asl 0 1) [(0,.arr 6 [cndT c] false)]
  rw [zg]
  exact .oA [(0,some 12292)] []
 ·rw [KP,if_neg (by rw [h];simp)] at hal ⊢
  refine qw mixm (α:=Nat) [3,4,17] (fun i=>i≤c.kids.length) (fun i=>[(3,.asl 1 (Qx (c.kids.take i)).length),(4,vI i)]) (fun i=>[(4096,.arr 6 [cnT c] false),(1,.arr 6 ((Qx (c.kids.take i)).map cndT) false)]) (fun i=>c.kids.length - i) 0 (by omega) ?_ fun i hi2=>?_
  ·exact .oA [(4096,some 4096),(1,none)] []
  have htl:=jE c.kids i
  refine sD ?_
  refine ⟨fun h5=>?_,fun h5=>?_⟩
  ·have hi2:i < c.kids.length:=by omega
   have hwi:=qj (i:=i) (by omega)
   obtain ⟨m',a1,a2,a3⟩:=hk2 _ (List.getElem_mem hi2)
   have htl2:=jE c.kids (i + 1)
   rw [qR hi2,yN,List.length_append] at htl2
   simp only [tZ,↓un_u,simprocAttr,Int.toNat_natCast,qe hi2,zg]
   refine ⟨by omega,?_⟩
   refine C1.im (qj8 _ m' a1 (by omega) a3) (by rfl) (by rfl) ?_
   simp only [tZ,↓un_u,simprocAttr,hwi]
   refine ⟨by omega,i + 1,by omega,by omega,?_⟩
   rw [qR hi2,yN,List.map_append]
   refine .of [(4096,some 4096),(1,some 1)] [] rfl (by first | rfl | (rw [hst];rfl)) ?_ ?_
   all_goals (try simp only [tL,simprocAttr,List.map_append,List.map_cons,List.map_nil,List.cons_append,List.nil_append,List.append_assoc])
   all_goals (try (repeat' (first | exact qT | (apply zj;intro _;exact ⟨rfl,rfl⟩) | (apply qz;intro _;exact ⟨rfl,rfl⟩) | with_reducible apply qJ | with_reducible refine qM ⟨rfl,rfl⟩ ?_ | exact qW | with_reducible apply qE | with_reducible refine qK ⟨rfl,rfl,?_⟩ ?_ | with_reducible apply And.intro | exact qG rfl | exact qG (by assumption) | (refine ⟨⟨?_,rfl,?_,rfl,?_⟩,trivial⟩ <;> first | (simp;done) | (apply qz;intro _;exact ⟨rfl,rfl⟩)) | trivial | rfl | (rw [qj (by omega)]) | omega)))
   all_goals first | exact JE _ | exact KW _
  ·have hil:i = c.kids.length:=by omega
   subst hil
   rw [List.take_length]
   refine .of [(0,some 1)] [] rfl (by first | rfl | (rw [hst];rfl)) ?_ ?_
   all_goals (try simp only [tL,simprocAttr,List.map_append,List.map_cons,List.map_nil,List.cons_append,List.nil_append,List.append_assoc])
   all_goals (try (repeat' (first | exact qT | (apply zj;intro _;exact ⟨rfl,rfl⟩) | (apply qz;intro _;exact ⟨rfl,rfl⟩) | with_reducible apply qJ | with_reducible refine qM ⟨rfl,rfl⟩ ?_ | exact qW | with_reducible apply qE | with_reducible refine qK ⟨rfl,rfl,?_⟩ ?_ | with_reducible apply And.intro | exact qG rfl | exact qG (by assumption) | (refine ⟨⟨?_,rfl,?_,rfl,?_⟩,trivial⟩ <;> first | (simp;done) | (apply qz;intro _;exact ⟨rfl,rfl⟩)) | trivial | rfl | (rw [qj (by omega)]) | omega)))
   all_goals first | exact JE _ | exact KW _
def atsQ (q:Qst):List Cnd:=atsC q.filt ++ atsC q.event
theorem qU8 (q:Qst) (k:Int) (h1:cntC q.filt 41 < 41) (h2:cntC q.event 41 < 41):Spc Tryz.prog Kk [qstT q,vI k] [] (vCs ((atsQ q).filter fun x=>x.col == k)) []:=by
 have hl1:=JD q.filt 41 (by omega) h1
 have hl2:=JD q.event 41 (by omega) h2
 refine qd qE6 mixm (by simp) fun e _ hst=>qg ?_
 unfold ZZ
 refine sW ?_
 refine C1.fresh 5 (qJ4 q.filt 41 (by omega) (by omega) h1) (by rfl) (KW _) (by rfl) ?_
 refine sW ?_
 refine C1.im (qj8 q.event 41 (by omega) (by omega) h2) (by rfl) (by rfl) ?_
 refine sW ?_
 rw [show (atsC q.filt).map cndT ++ (atsC q.event).map cndT = (atsQ q).map cndT by rw [atsQ,List.map_append]]
 have hq:(atsC q.filt).length + (atsC q.event).length = (atsQ q).length:=by rw [atsQ,List.length_append]
 rw [hq]
 generalize atsQ q = L at hq ⊢
 repeat (first | refine ⟨by omega,?_⟩ | refine ⟨by kernel_rfl,?_⟩)
 have hfl:∀ i,((L.take i).filter fun x=>x.col == k).length≤L.length:=fun i=>Nat.le_trans (List.length_filter_le _ _) (by rw [List.length_take];omega)
 have hfs:∀ {i:Nat} (h:i < L.length),(L.take (i + 1)).filter (fun x=>x.col == k) = (L.take i).filter (fun x=>x.col == k) ++ if (L[i].col == k) = true then [L[i]] else []:=fun {i} h=>by
  rw [qR h,List.filter_append]
  congr 1
  split
  ·rename_i h2;rw [List.filter_cons_of_pos (p:=fun x:Cnd=>x.col == k) h2];rfl
  ·rename_i h2;rw [List.filter_cons_of_neg (p:=fun x:Cnd=>x.col == k) h2];rfl
 refine qw mixm (α:=Nat) [5,7,2,4,8,9,10] (fun i=>i≤L.length) (fun i=>[(5,.asl 1 ((L.take i).filter fun x=>x.col == k).length),(7,vI i)]) (fun i=>[(5,.arr 6 (L.map cndT) false),(1,.arr 6 (((L.take i).filter fun x=>x.col == k).map cndT) false)]) (fun i=>L.length - i) 0 (by omega) ?_ fun i hi=>?_
 ·refine .of [(5,some 5),(1,none)] [] rfl (by first | rfl | (rw [hst];rfl)) ?_ ?_
  all_goals (try simp only [tL,simprocAttr,List.map_append,List.map_cons,List.map_nil,List.cons_append,List.nil_append])
  all_goals (try (repeat' (first | exact qT | (apply zj;intro _;exact ⟨rfl,rfl⟩) | (apply qz;intro _;exact ⟨rfl,rfl⟩) | with_reducible apply qJ | with_reducible refine qM ⟨rfl,rfl⟩ ?_ | exact qW | with_reducible apply qE | with_reducible refine qK ⟨rfl,rfl,?_⟩ ?_ | with_reducible apply And.intro | exact qG rfl | exact qG (by assumption) | (refine ⟨⟨?_,rfl,?_,rfl,?_⟩,trivial⟩ <;> first | (simp;done) | (apply qz;intro _;exact ⟨rfl,rfl⟩)) | trivial | rfl | (rw [qj (by omega)]) | omega)))
  all_goals first | exact JE _ | exact KW _
 have hfi:=hfl i
 refine sD ?_
 refine ⟨fun h5=>?_,fun h5=>?_⟩
 ·have hi2:i < L.length:=by omega
  have hwi:=qj (i:=i) (by omega)
  have hs:=hfs hi2
  simp only [tZ,↓un_u,simprocAttr,Int.toNat_natCast,qe hi2,zg,hwi]
  refine ⟨by omega,by omega,fun h6=>?_,fun h6=>?_⟩
  ·rw [if_pos h6] at hs
   refine ⟨by omega,by omega,by omega,i + 1,by omega,by omega,?_⟩
   rw [hs,List.map_append,List.length_append,List.map_cons,List.map_nil,zg L[i]]
   refine .of [(5,some 5),(1,some 1)] [] rfl (by first | rfl | (rw [hst];rfl)) ?_ ?_
   all_goals (try simp only [tL,simprocAttr,List.map_append,List.map_cons,List.map_nil,List.cons_append,List.nil_append,List.append_assoc])
   all_goals (try (repeat' (first | exact qT | (apply zj;intro _;exact ⟨rfl,rfl⟩) | (apply qz;intro _;exact ⟨rfl,rfl⟩) | with_reducible apply qJ | with_reducible refine qM ⟨rfl,rfl⟩ ?_ | exact qW | with_reducible apply qE | with_reducible refine qK ⟨rfl,rfl,?_⟩ ?_ | with_reducible apply And.intro | exact qG rfl | exact qG (by assumption) | (refine ⟨⟨?_,rfl,?_,rfl,?_⟩,trivial⟩ <;> first | (simp;done) | (apply qz;intro _;exact ⟨rfl,rfl⟩)) | trivial | rfl | (rw [qj (by omega)]) | omega)))
   all_goals first | exact JE _ | exact KW _
  ·rw [if_neg (by rw [h6];simp),List.append_nil] at hs
   refine ⟨i + 1,by omega,by omega,?_⟩
   rw [hs]
   refine .of [(5,some 5),(1,some 1)] [] rfl (by first | rfl | (rw [hst];rfl)) ?_ ?_
   all_goals (try simp only [tL,simprocAttr,List.map_append,List.map_cons,List.map_nil,List.cons_append,List.nil_append])
   all_goals (try (repeat' (first | exact qT | (apply zj;intro _;exact ⟨rfl,rfl⟩) | (apply qz;intro _;exact ⟨rfl,rfl⟩) | with_reducible apply qJ | with_reducible refine qM ⟨rfl,rfl⟩ ?_ | exact qW | with_reducible apply qE | with_reducible refine qK ⟨rfl,rfl,?_⟩ ?_ | with_reducible apply And.intro | exact qG rfl | exact qG (by assumption) | (refine ⟨⟨?_,rfl,?_,rfl,?_⟩,trivial⟩ <;> first | (simp;done) | (apply qz;intro _;exact ⟨rfl,rfl⟩)) | trivial | rfl | (rw [qj (by omega)]) | omega)))
   all_goals first | exact JE _ | exact KW _
 ·have hil:i = L.length:=by omega
  subst hil
  rw [List.take_length]
  refine .of [] [1] rfl (by first | rfl | (rw [hst];rfl)) ?_ ?_
  all_goals (try simp only [tL,simprocAttr,List.map_append,List.map_cons,List.map_nil,List.cons_append,List.nil_append,List.append_assoc])
  all_goals (try (repeat' (first | exact qT | (apply zj;intro _;exact ⟨rfl,rfl⟩) | (apply qz;intro _;exact ⟨rfl,rfl⟩) | with_reducible apply qJ | with_reducible refine qM ⟨rfl,rfl⟩ ?_ | exact qW | with_reducible apply qE | with_reducible refine qK ⟨rfl,rfl,?_⟩ ?_ | with_reducible apply And.intro | exact qG rfl | exact qG (by assumption) | (refine ⟨⟨?_,rfl,?_,rfl,?_⟩,trivial⟩ <;> first | (simp;done) | (apply qz;intro _;exact ⟨rfl,rfl⟩)) | trivial | rfl | (rw [qj (by omega)]) | omega)))
  all_goals first | exact JE _ | exact KW _
def zR6 (s:Sch) (q:Qst) (k a b:Int):Bool:=(((atsQ q).filter fun x=>x.col == k).any fun x=>zT s x a != zT s x b) || (q.dims.any fun d=>(d.col == k) && (qO s k d.lev a != qO s k d.lev b)) || (ze7 q k && (a != b))
theorem zR7 {c:Cnd} (h:JA c cnd0 = true):atsC c = []∧cntC c 41 = 1:=by
 rw [qT2] at h
 simp only [Bool.and_eq_true,beq_iff_eq] at h
 obtain ⟨⟨⟨⟨⟨h1,_⟩,_⟩,_⟩,_⟩,h6⟩:=h
 have hk:c.kids = []:=by
  cases hk:c.kids with
  | nil=>rfl
  | cons x r=>rw [hk,show cnd0.kids = [] from rfl,wh] at h6;cases h6
 have ho:c.op = 0:=h1
 refine ⟨?_,by rw [Qw,hk,jV]⟩
 rw [KP,if_neg (by rw [isAt,ho];decide),hk,Qx]
theorem zg7 {s:Sch} {q:Qst} (hq:QstOk s q):cntC q.filt 41 < 41∧cntC q.event 41 < 41∧(∀ x∈atsQ q,NdOk s x∧isAt x = true)∧(cnsL q).flatMap atsC = atsQ q:=by
 obtain ⟨_,f2,_,f4⟩:=qp1 hq.filt
 by_cases h3:q.kind = 3
 ·obtain ⟨_,e2,_,e4⟩:=qp1 (hq.event h3).2.2
  refine ⟨f2,e2,fun x hx=>?_,by rw [cnsL,if_pos h3,atsQ];simp⟩
  rcases List.mem_append.1 hx with h | h
  ·exact qN4 _ f4 x h
  ·exact qN4 _ e4 x h
 ·obtain ⟨e1,e2⟩:=zR7 (hq.e0 h3)
  refine ⟨f2,by omega,fun x hx=>?_,by rw [cnsL,if_neg h3,atsQ,e1];simp⟩
  rw [atsQ,e1,List.append_nil] at hx
  exact qN4 _ f4 x hx
theorem ja2 {s:Sch} {q:Qst} (hq:QstOk s q) {k:Int} (hk:1≤k) (a b:Int):zA6 s q k a b = zR6 s q k a b:=by
 obtain ⟨_,_,_,h4⟩:=zg7 hq
 have e1:((cnsL q).any fun c=>(atsC c).any fun x=>(x.col == k) && (zT s x a != zT s x b)) = (((atsQ q).filter fun x=>x.col == k).any fun x=>zT s x a != zT s x b):=by
  rw [List.any_filter,← h4,List.any_flatMap]
 have e2:usB q k = ze7 q k:=by rw [usB,decide_eq_true (by omega),Bool.true_and]
 rw [zA6,zR6,e1,e2,Bool.or_assoc,Bool.or_comm,Bool.or_comm (List.any _ _)]
theorem zR8 {s:Sch} {i:Nat} (h1:1≤i) (h2:i < s.cols.length) (v:Int):canB s i v = zN s i v:=by
 unfold canB
 rw [decide_eq_true (by omega),decide_eq_true (by omega),Int.toNat_natCast];rfl
theorem ja3 {s:Sch} {k:Int} (h:¬ (1≤k∧k < s.cols.length)) (v:Int):canB s k v = false:=by
 unfold canB
 rw [show (decide (1≤k) && decide (k < s.cols.length)) = false by rw [Bool.and_eq_false_iff,decide_eq_false_iff_not,decide_eq_false_iff_not];omega]
 rfl
theorem qU9 (s:Sch) (hs:QO s) (hL:0 < s.lists.length) (q:Qst) (k a b:Int):Spc Tryz.prog kr [schT s,qstT q,vI k,vI a,vI b] [] (vB (Yi s q k a b)) []:=by
 refine qd qE2 mixm (by simp) fun e _ hst=>qg ?_
 unfold ZX
 refine sW ?_
 refine C1.im (qt9 s hs hL q) (by rfl) (by rfl) ?_
 by_cases h0:qstE s q = 0∧1≤k∧k < s.cols.length
 ·obtain ⟨h0,h1,h2⟩:=h0
  obtain ⟨i,rfl⟩:=Int.eq_ofNat_of_zero_le (show 0≤k by omega)
  have hil:i < s.cols.length:=by omega
  have hq:=qC9 h0
  have hok:=qZ hq.sch
  obtain ⟨f2,f3,hats,_⟩:=zg7 hq
  have hnd:=hq.nd
  have hnt:=hq.nt
  have hT:Yi s q i a b = (zN s i a && zN s i b && zR6 s q i a b):=by
   rw [Yi,h0,zR8 (by omega) hil,zR8 (by omega) hil,ja2 hq h1];simp
  have hR:zR6 s q i a b = ((((atsQ q).filter fun x=>x.col == (i:Int)).any fun x=>zT s x a != zT s x b) || (q.dims.any fun d=>(d.col == (i:Int)) && (qO s i d.lev a != qO s i d.lev b)) || (ze7 q i && (a != b))):=rfl
  have e1:decide ((i:Int) < 1) = false:=decide_eq_false (by omega)
  have e2:decide ((i:Int)≥s.cols.length) = false:=decide_eq_false (by omega)
  have hHa:=KN s hok i hil a
  have hHb:=KN s hok i hil b
  have hAll:=JD q.filt 41 (by omega) f2
  have hAll2:=JD q.event 41 (by omega) f3
  have hQl:(atsQ q).length≤80:=by rw [atsQ,List.length_append];omega
  have hfl:=List.length_filter_le (fun x:Cnd=>x.col == (i:Int)) (atsQ q)
  have hfm:∀ x∈(atsQ q).filter (fun x=>x.col == (i:Int)),NdOk s x∧isAt x = true:=fun x hx=>hats x (List.mem_filter.1 hx).1
  rw [hT]
  simp only [tZ,↓un_u,simprocAttr,h0,bne_self_eq_false,e1,e2]
  refine C2.im (fun _=>hHa) (fun _=>rfl) (by rfl) ?_
  refine sW ?_
  refine C2.im (fun _=>hHb) (fun _=>rfl) (by rfl) ?_
  simp only [tZ,↓un_u,simprocAttr,tD,Bool.not_eq_true',Bool.not_eq_false']
  refine ⟨fun h=>?_,fun h=>?_⟩
  ·rw [show (zN s i a && zN s i b && zR6 s q i a b) = false by rcases h with h | h <;> rw [h] <;> simp]
   exact .oA [] []
  rw [h.1,h.2,Bool.true_and,Bool.true_and,hR]
  refine C1.im (qU8 q i f2 f3) (by rfl) (by rfl) ?_
  generalize (atsQ q).filter (fun x=>x.col == (i:Int)) = L at hfl hfm ⊢
  refine sW ?_
  refine qw mixm (α:=Nat) [12] (fun n=>n≤L.length∧((L.take n).any fun x=>zT s x a != zT s x b) = false) (fun n=>[(12,vI n)]) (fun n=>[(4096,.arr 2 [schT s] false),(4100,.arr 17 [qstT q] false)]) (fun n=>L.length - n) 0 ⟨by omega,rfl⟩ ?_ fun n hn=>?_
  ·exact .oA [(4096,some 4096),(4100,some 4100)] []
  refine sD ?_
  refine ⟨fun h5=>?_,fun h5=>?_⟩
  ·have hn2:n < L.length:=by omega
   have hwn:=qj (i:=n) (by omega)
   obtain ⟨hnd1,ha⟩:=hfm _ (List.getElem_mem hn2)
   have hAt:=fun v=>zf2 s hok L[n] hnd1 v
   simp only [tZ,↓un_u,simprocAttr,Int.toNat_natCast,qe hn2,zg]
   refine ⟨by omega,?_⟩
   refine C1.im (hAt a) (by rfl) (by rfl) ?_
   simp only [tZ,↓un_u,simprocAttr,Int.toNat_natCast,qe hn2,zg]
   refine ⟨by omega,?_⟩
   refine C1.im (hAt b) (by rfl) (by rfl) ?_
   simp only [tZ,↓un_u,simprocAttr,hwn]
   refine ⟨by kernel_rfl,fun h6=>?_,fun h6=>?_⟩
   ·rw [qf3 hn2 h6,Bool.true_or,Bool.true_or]
    exact .oA [] []
   ·refine ⟨n + 1,⟨by omega,zY hn2 hn.2 h6⟩,by omega,?_⟩
    exact .oA [(4096,some 4096),(4100,some 4100)] []
  ·have hnl:n = L.length:=by omega
   subst hnl
   have hn2:=hn.2
   rw [List.take_length] at hn2
   rw [hn2,Bool.false_or]
   refine qw mixm (α:=Nat) [13] (fun n=>n≤q.dims.length∧((q.dims.take n).any fun d=>(d.col == (i:Int)) && (qO s i d.lev a != qO s i d.lev b)) = false) (fun n=>[(13,vI n)]) (fun n=>[(4096,.arr 2 [schT s] false),(4100,.arr 17 [qstT q] false)]) (fun n=>q.dims.length - n) 0 ⟨by omega,rfl⟩ ?_ fun n hn=>?_
   ·exact .oA [(4096,some 4096),(4100,some 4100)] []
   refine sD ?_
   refine ⟨fun h5=>?_,fun h5=>?_⟩
   ·have hn2:n < q.dims.length:=by omega
    have hwn:=qj (i:=n) (by omega)
    have hC:=fun v=>qJ1 s hs i q.dims[n].lev v
    simp only [tZ,↓un_u,simprocAttr,Int.toNat_natCast,qe hn2]
    refine ⟨by omega,?_⟩
    refine C2.im (fun _=>hC a) (fun _=>rfl) (by rfl) ?_
    refine sW ?_
    refine C2.im (fun _=>hC b) (fun _=>rfl) (by rfl) ?_
    simp only [tZ,↓un_u,simprocAttr,hwn]
    refine ⟨by kernel_rfl,fun h6=>?_,fun h6=>?_⟩
    ·rw [qf3 hn2 h6,Bool.true_or]
     exact .oA [] []
    ·refine ⟨n + 1,⟨by omega,zY hn2 hn.2 h6⟩,by omega,?_⟩
     exact .oA [(4096,some 4096),(4100,some 4100)] []
   ·have hnl:n = q.dims.length:=by omega
    subst hnl
    have hn2:=hn.2
    rw [List.take_length] at hn2
    rw [hn2,Bool.false_or]
    refine C1.im (zg3 q i (by omega)) (by rfl) (by rfl) ?_
    refine sW ?_
    exact .oA [] []
 ·have e:((qstE s q != 0) || decide (k < 1) || decide (k≥(s.cols.length:Int))) = true:=by
   by_cases h1:qstE s q = 0
   ·simp only [Bool.or_eq_true,decide_eq_true_eq]
    omega
   ·rw [bne_iff_ne.2 h1];rfl
  rw [show Yi s q k a b = false by
   unfold Yi
   by_cases h1:qstE s q = 0
   ·rw [ja3 (fun h=>h0 ⟨h1,h⟩)];simp
   ·rw [beq_eq_false_iff_ne.2 h1];rfl]
  simp only [tZ,↓un_u,simprocAttr,e]
  refine C2.no (by simp) ?_
  refine sW ?_
  refine C2.no (by simp) ?_
  refine sW ?_
  exact .oA [] []
end Go.Proofs
