/- A part of the proof: trees of Go values, short forms, contracts. -/
import Derived.WalkKit
import Derived.Still
import Derived.MapKept
import GoSem.Builtin.Cap
import Derived.Laws.Externs
import GoSem.Extern.SlicesOverlaps
import Derived.Carry
import Derived.ProofKit
import Derived.OpenShut
import Derived.HandedShaped
import Derived.Lay
import Derived.LaidLaws
import Derived.MakeChecks
import Derived.SevenTiedAt
import Derived.Test.YtiddpnhnaooohaaGreatDoorChecked
import Derived.Test.YtiddpnhnaooohaaGreatDoorK20
set_option linter.unusedSimpArgs false
set_option linter.unusedVariables false
namespace Go.Proofs
open Go Go.TL
set_option maxRecDepth 4000
set_option maxHeartbeats 8000000
def kiI (s:Sch) (c:Int):Int:=if c < 0∨c≥s.cols.length then 0 else (qh s c.toNat).kind
theorem jc3 {s:Sch} {c k:Int} (hk:k≠0):(kiI s c == k) = isB s c k:=by
 rw [Bool.eq_iff_iff,beq_iff_eq,zC,kiI]
 split
 ·constructor
  ·intro h;omega
  ·intro h;omega
 ·constructor
  ·intro h;exact ⟨by omega,by omega,h⟩
  ·intro h;exact h.2.2
theorem zc0 {s:Sch} {c k:Int} (hk:k≠0):isB s c k = false↔kiI s c≠k:=by rw [← jc3 hk,beq_eq_false_iff_ne]
theorem jh2 {s:Sch} {c k:Int} (hk:k≠0):isB s c k = true↔kiI s c = k:=by rw [← jc3 hk,beq_iff_eq]
theorem zD (s:Sch) (c:Int):Spc Tryz.prog zd [schT s,vI c] [] (vI (kiI s c)) []:=by
 refine qd Wz mixm (by simp) fun e _ hst=>qg ?_
 unfold ke
 refine sD ?_
 refine ⟨fun h=>?_,fun h=>?_⟩
 ·rw [kiI,if_pos (by omega)]
  exact .oA [] []
 obtain ⟨i,rfl⟩:=Int.eq_ofNat_of_zero_le (show 0≤c by omega)
 have hi:i < s.cols.length:=by omega
 rw [kiI,if_neg (by omega),Int.toNat_natCast,qh,qk hi]
 simp only [tZ,↓un_u,simprocAttr,Int.toNat_natCast,qe hi]
 refine ⟨by omega,?_⟩
 exact .oA [] []
theorem empC (c:Cnd):((c.op == 0) && (c.col == 0) && (c.code == 0) && (c.lo == 0) && (c.hi == 0) && ((c.kids.length:Int) == 0)) = qa9 c cnd0:=by
 rw [zV3]
 show _ = ((c.op == 0) && (c.col == 0) && (c.code == 0) && (c.lo == 0) && (c.hi == 0) && za9 c.kids [])
 congr 1
 cases c.kids with
 | nil=>rfl
 | cons x r=>
   rw [za9]
   exact beq_eq_false_iff_ne.2 (by simp;omega)
theorem Zz (c:Cnd):Spc Tryz.prog jx [cnT c] [] (vB (qa9 c cnd0)) []:=by
 refine qd Yp mixm (by simp) fun e _ hst=>qg ?_
 unfold kN
 refine sW ?_
 rw [← empC]
 exact .oA [] []
theorem WK (x y:Pk):Spc Tryz.prog zZ [pkT x,.ip (pkT y).cells] [] (vB (x.col == y.col)) []:=by
 refine qd KT mixm (by simp) fun e _ hst=>qg ?_
 unfold jN
 refine sW ?_
 exact .oA [] []
def tabE (s:Sch) (q:Qst):Int:=if Js s q.dims≠0 then Js s q.dims else if q.meas≠-1∧isB s q.meas 3 = false then 7 else if 0 < q.terms.length∨qa9 q.event cnd0 = false then 11 else 0
theorem qb5 (s:Sch) (hs:JI s) (q:Qst):Spc Tryz.prog wj [schT s,qstT q] [] (vI (tabE s q)) []:=by
 have hT:tabE s q = if Js s q.dims≠0 then Js s q.dims else if q.meas≠-1∧isB s q.meas 3 = false then 7 else if 0 < q.terms.length∨qa9 q.event cnd0 = false then 11 else 0:=rfl
 have hTD:Js s q.dims≠0→tabE s q = Js s q.dims:=fun h=>by rw [hT,if_pos h]
 refine qd Yj mixm (by simp) fun e _ hst=>qg ?_
 unfold kK
 refine sD ?_
 refine ⟨fun h=>?_,fun h=>?_⟩
 ·have:Js s q.dims = 1:=by rw [Js,if_pos (by omega)]
  rw [hTD (by rw [this];simp),this]
  exact .oA [] []
 have hD:Js s q.dims = jF (dimE s q.dims) q.dims.length:=by rw [Js,if_neg (by omega)]
 generalize tabE s q = E at hT hTD ⊢
 refine qy mixm (α:=Nat) [21] (fun i=>i≤q.dims.length∧(jF (dimE s q.dims) i = 0)) (fun i=>[(21,vI i)]) (fun i=>[(4096,.arr 2 [schT s] false),(4100,.arr 17 [qstT q] false)]) (fun i=>q.dims.length - i) 0 ⟨by omega,?_⟩ ?_ fun i hi=>?_
 ·rfl
 ·exact .oA [(4096,some 4096),(4100,some 4100)] []
 simp only [tZ,↓un_u,simprocAttr,decide_eq_true_eq,decide_eq_false_iff_not]
 refine ⟨fun h=>?_,fun h=>?_⟩
 ·have hi2:i < q.dims.length:=by omega
  have hpi:pkAt q.dims i = q.dims[i]:=by rw [pkAt,qk hi2]
  have hstep:=qm7 hi.2 hi2
  have hnext:=Zx hi.2
  have hA:dimE s q.dims i = if Jr s q.dims[i]≠0 then Jr s q.dims[i] else if isB s q.dims[i].col 2 = false then 7 else if ((q.dims.take i).any fun x=>x.col == q.dims[i].col) = true then 10 else 0:=by rw [dimE,hpi]
  rw [← hD] at hstep
  have hbad:dimE s q.dims i≠0→E = dimE s q.dims i:=fun h=>by rw [hTD (by rw [hstep h];exact h),hstep h]
  have hi2:i < q.dims.length:=by omega
  have hwi:=qj (i:=i) (by omega)
  simp only [tZ,↓un_u,simprocAttr,Int.toNat_natCast,qe hi2,hwi]
  refine ⟨by omega,?_⟩
  refine C1.im (qP6 s hs q.dims[i]) (by rfl) (by rfl) ?_
  simp only [tZ,↓un_u,simprocAttr,bne_iff_ne,bne_eq_false_iff_eq]
  refine ⟨fun h3=>?_,fun h3=>?_⟩
  ·rw [if_pos h3] at hA
   rw [hbad (by rw [hA];exact h3),hA]
   exact .oA [] []
  rw [if_neg (by rw [h3];simp)] at hA
  refine C1.im (zD s q.dims[i].col) (by rfl) (by rfl) ?_
  have hki:=zc0 (s:=s) (c:=q.dims[i].col) (k:=2) (by decide)
  simp only [tZ,↓un_u,simprocAttr,bne_iff_ne,bne_eq_false_iff_eq]
  refine ⟨fun h4=>?_,fun h4=>?_⟩
  ·rw [if_pos (hki.2 h4)] at hA
   rw [hbad (by rw [hA];simp),hA]
   exact .oA [] []
  rw [if_neg (fun h=>hki.1 h h4)] at hA
  have hCF:=zU (fun x=>x.col == q.dims[i].col) zZ [.ip (pkT q.dims[i]).cells] rfl (q.dims.take i) (fun x _=>WK x q.dims[i]) (by rw [List.length_take];omega)
  refine ⟨by omega,?_⟩
  rw [qk3,qY9]
  refine C1.lend [24588] hCF ?_ (by rfl) (by rfl) ?_
  ·all_goals (try simp only [tL,simprocAttr,List.map_append,List.map_cons,List.map_nil,List.cons_append,List.nil_append])
   all_goals (try (repeat' (first | exact qZ | (apply zy;intro _;exact ⟨rfl,rfl⟩) | (apply qD;intro _;exact ⟨rfl,rfl⟩) | with_reducible apply qR | with_reducible refine qT ⟨rfl,rfl⟩ ?_ | exact ze | with_reducible apply qH | with_reducible refine qM ⟨rfl,rfl,?_⟩ ?_ | with_reducible apply And.intro | exact qJ rfl | exact qJ (by assumption) | (refine ⟨⟨?_,rfl,?_,rfl,?_⟩,trivial⟩ <;> first | (simp;done) | (apply qD;intro _;exact ⟨rfl,rfl⟩)) | trivial | rfl | (rw [qj (by omega)]) | omega)))
   simp only [ltP]
   exact ⟨rfl,by decide,rfl,qT ⟨rfl,rfl⟩ ze⟩
  simp only [tZ,↓un_u,simprocAttr,hwi]
  refine ⟨fun h5=>?_,fun h5=>?_⟩
  ·rw [if_pos h5] at hA
   rw [hbad (by rw [hA];simp),hA]
   exact .oA [] []
  ·rw [if_neg (by rw [h5];simp)] at hA
   refine ⟨i + 1,⟨by omega,by rw [hnext,hA]⟩,by omega,?_⟩
   exact .oA [(4096,some 4096),(4100,some 4100)] []
 ·have hi2:i = q.dims.length:=by omega
  subst hi2
  rw [← hD] at hi
  rw [if_neg (by rw [hi.2];simp)] at hT
  have hk:=zD s q.meas
  refine C2.im (fun _=>hk) (fun _=>rfl) (by rfl) ?_
  have hki:=zc0 (s:=s) (c:=q.meas) (k:=3) (by decide)
  simp only [tZ,↓un_u,simprocAttr,tD,bne_iff_ne,bne_eq_false_iff_eq]
  refine ⟨fun h5=>?_,fun h5=>?_⟩
  ·rw [if_pos (by grind)] at hT
   rw [hT]
   exact .oA [] []
  rw [if_neg (by grind)] at hT
  refine C2.im (fun _=>Zz q.event) (fun _=>rfl) (by rfl) ?_
  simp only [tZ,↓un_u,simprocAttr,tD,gt_iff_lt,Bool.not_eq_true',Bool.not_eq_false']
  refine ⟨fun h6=>?_,fun h6=>?_⟩
  ·rw [if_pos (by grind)] at hT
   rw [hT]
   exact .oA [] []
  ·rw [if_neg (by grind)] at hT
   rw [hT]
   exact .oA [] []
def modE (s:Sch) (q:Qst):Int:=if isB s q.meas 3 = false then 7 else if yg s q.meas q.terms≠0 then yg s q.meas q.terms else if 0 < q.dims.length∨qa9 q.event cnd0 = false then 11 else 0
theorem qb6 (s:Sch) (q:Qst):Spc Tryz.prog wl [schT s,qstT q] [] (vI (modE s q)) []:=by
 have hT:modE s q = if isB s q.meas 3 = false then 7 else if yg s q.meas q.terms≠0 then yg s q.meas q.terms else if 0 < q.dims.length∨qa9 q.event cnd0 = false then 11 else 0:=rfl
 generalize modE s q = E at hT ⊢
 have hki:=zc0 (s:=s) (c:=q.meas) (k:=3) (by decide)
 refine qd Yl mixm (by simp) fun e _ hst=>qg ?_
 unfold kL
 refine sW ?_
 refine C1.im (zD s q.meas) (by rfl) (by rfl) ?_
 simp only [tZ,↓un_u,simprocAttr,tD,bne_iff_ne,bne_eq_false_iff_eq]
 refine ⟨fun h=>?_,fun h=>?_⟩
 ·rw [if_pos (hki.2 h)] at hT
  rw [hT]
  exact .oA [] []
 rw [if_neg (fun k=>hki.1 k h)] at hT
 refine ⟨fun h2=>?_,fun h2=>?_⟩
 ·have:yg s q.meas q.terms = 1:=by rw [yg,if_pos (by omega)]
  rw [this,if_pos (by simp)] at hT
  rw [hT]
  exact .oA [] []
 have hD:yg s q.meas q.terms = jF (zb2 s q.meas q.terms) q.terms.length:=by rw [yg,if_neg (by omega)]
 have hTD:yg s q.meas q.terms≠0→E = yg s q.meas q.terms:=fun h=>by rw [hT,if_pos h]
 refine qy mixm (α:=Nat) [27] (fun i=>i≤q.terms.length∧(jF (zb2 s q.meas q.terms) i = 0)) (fun i=>[(27,vI i)]) (fun i=>[(4096,.arr 2 [schT s] false),(4100,.arr 17 [qstT q] false)]) (fun i=>q.terms.length - i) 0 ⟨by omega,?_⟩ ?_ fun i hi=>?_
 ·rfl
 ·exact .oA [(4096,some 4096),(4100,some 4100)] []
 simp only [tZ,↓un_u,simprocAttr,decide_eq_true_eq,decide_eq_false_iff_not]
 refine ⟨fun h=>?_,fun h=>?_⟩
 ·have hi2:i < q.terms.length:=by omega
  have hpi:q.terms.getD i 0 = q.terms[i]:=qk hi2
  have hstep:=qm7 hi.2 hi2
  have hnext:=Zx hi.2
  have hA:zb2 s q.meas q.terms i = if isB s q.terms[i] 3 = false then 7 else if q.terms[i] = q.meas∨(q.terms.take i).contains q.terms[i] = true then 10 else 0:=by rw [zb2,hpi]
  rw [← hD] at hstep
  have hbad:zb2 s q.meas q.terms i≠0→E = zb2 s q.meas q.terms i:=fun h=>by rw [hTD (by rw [hstep h];exact h),hstep h]
  have hi2:i < q.terms.length:=by omega
  have hwi:=qj (i:=i) (by omega)
  simp only [tZ,↓un_u,simprocAttr,Int.toNat_natCast,qe hi2,hwi]
  refine ⟨by omega,?_⟩
  refine C1.im (zD s q.terms[i]) (by rfl) (by rfl) ?_
  have hki:=zc0 (s:=s) (c:=q.terms[i]) (k:=3) (by decide)
  simp only [tZ,↓un_u,simprocAttr,bne_iff_ne,bne_eq_false_iff_eq]
  refine ⟨fun h4=>?_,fun h4=>?_⟩
  ·rw [if_pos (hki.2 h4)] at hA
   rw [hbad (by rw [hA];simp),hA]
   exact .oA [] []
  rw [if_neg (fun h=>hki.1 h h4)] at hA
  have hCF:=yZ (q.terms.take i) q.terms[i] (by rw [List.length_take];omega)
  refine ⟨fun _=>by omega,?_⟩
  rw [qk3,qY9]
  refine C2.im (fun _=>hCF) (fun _=>rfl) (by rfl) ?_
  simp only [tZ,↓un_u,simprocAttr,hwi,tD,beq_iff_eq,beq_eq_false_iff_ne]
  refine ⟨fun h5=>?_,fun h5=>?_⟩
  ·rw [if_pos h5] at hA
   rw [hbad (by rw [hA];simp),hA]
   exact .oA [] []
  ·rw [if_neg (by grind)] at hA
   refine ⟨i + 1,⟨by omega,by rw [hnext,hA]⟩,by omega,?_⟩
   exact .oA [(4096,some 4096),(4100,some 4100)] []
 ·have hi2:i = q.terms.length:=by omega
  subst hi2
  rw [← hD] at hi
  rw [if_neg (by rw [hi.2];simp)] at hT
  refine C2.im (fun _=>Zz q.event) (fun _=>rfl) (by rfl) ?_
  simp only [tZ,↓un_u,simprocAttr,tD,gt_iff_lt,Bool.not_eq_true',Bool.not_eq_false']
  refine ⟨fun h6=>?_,fun h6=>?_⟩
  ·rw [if_pos (by grind)] at hT
   rw [hT]
   exact .oA [] []
  ·rw [if_neg (by grind)] at hT
   rw [hT]
   exact .oA [] []
def curE (s:Sch) (q:Qst):Int:=if isB s q.meas 3 = false then 7 else if (qh s q.meas.toNat).low < 0 then 2 else if chkC s q.event≠0 then chkC s q.event else if 0 < q.dims.length∨0 < q.terms.length then 11 else 0
theorem qb7 (s:Sch) (hs:JI s) (q:Qst):Spc Tryz.prog wm [schT s,qstT q] [] (vI (curE s q)) []:=by
 have hki:=zc0 (s:=s) (c:=q.meas) (k:=3) (by decide)
 refine qd Yn mixm (by simp) fun e _ hst=>qg ?_
 unfold kM
 refine sW ?_
 refine C1.im (zD s q.meas) (by rfl) (by rfl) ?_
 simp only [tZ,↓un_u,simprocAttr,tD,bne_iff_ne,bne_eq_false_iff_eq]
 refine ⟨fun h=>?_,fun h=>?_⟩
 ·rw [curE,if_pos (hki.2 h)]
  exact .oA [] []
 rw [curE,if_neg (fun k=>hki.1 k h)]
 obtain ⟨b1,b2,b3⟩:=zC.1 ((jh2 (by decide)).2 h)
 have hil:q.meas.toNat < s.cols.length:=by omega
 rw [qh,qk hil]
 simp only [tZ,↓un_u,simprocAttr,qe hil,tD]
 refine ⟨by omega,fun h4=>?_,fun h4=>?_⟩
 ·rw [if_pos h4]
  exact .oA [] []
 rw [if_neg h4]
 refine C1.im (yH s hs q.event) (by rfl) (by rfl) ?_
 simp only [tZ,↓un_u,simprocAttr,bne_iff_ne,bne_eq_false_iff_eq]
 refine ⟨fun h5=>?_,fun h5=>?_⟩
 ·rw [if_pos h5]
  exact .oA [] []
 rw [if_neg (by rw [h5];simp)]
 simp only [tZ,↓un_u,simprocAttr,tD,gt_iff_lt]
 refine ⟨fun h6=>?_,fun h6=>?_⟩
 ·rw [if_pos (by omega)]
  exact .oA [] []
 ·rw [if_neg (by omega)]
  exact .oA [] []
theorem jP (s:Sch) (hs:JI s) (q:Qst):Spc Tryz.prog zn [schT s,qstT q] [] (vI (qstE s q)) []:=by
 refine qd Kl mixm (by simp) fun e _ hst=>qg ?_
 unfold jA
 refine sW ?_
 refine C1.im (kU s hs.2.1 hs.1) (by rfl) (by rfl) ?_
 simp only [tZ,↓un_u,simprocAttr,bne_iff_ne,bne_eq_false_iff_eq]
 refine ⟨fun h=>?_,fun h=>?_⟩
 ·rw [qstE,if_pos h]
  exact .oA [] []
 rw [qstE,if_neg (by rw [h];simp)]
 refine C1.im (ZK q.name) (by rfl) (by rfl) ?_
 simp only [tZ,↓un_u,simprocAttr,tD,Bool.not_eq_true',Bool.not_eq_false']
 refine ⟨fun h2=>?_,fun h2=>?_⟩
 ·rw [if_pos h2]
  exact .oA [] []
 rw [if_neg (by rw [h2];simp)]
 refine ⟨fun h3=>?_,fun h3=>?_⟩
 ·rw [if_pos (by omega)]
  exact .oA [] []
 rw [if_neg (by omega)]
 refine C1.im (yH s hs q.filt) (by rfl) (by rfl) ?_
 simp only [tZ,↓un_u,simprocAttr,bne_iff_ne,bne_eq_false_iff_eq,beq_iff_eq,beq_eq_false_iff_ne]
 refine ⟨fun h4=>?_,fun h4=>?_⟩
 ·rw [if_pos h4]
  exact .oA [] []
 rw [if_neg (by rw [h4];simp)]
 refine ⟨fun h5=>?_,fun h5=>⟨fun h6=>?_,fun h6=>?_⟩⟩
 ·refine C1.im (qb5 s hs q) (by rfl) (by rfl) ?_
  rw [show (if kD s q≠0 then kD s q else if (q.kind≠1∧0 < q.dims.length)∨(q.kind≠2∧0 < q.terms.length)∨(q.kind≠3∧qa9 q.event cnd0 = false) then 11 else 0) = tabE s q by
   rw [kD,if_pos h5,tabE]
   grind]
  refine sW ?_
  exact .oA [] []
 ·refine C1.im (qb6 s q) (by rfl) (by rfl) ?_
  rw [show (if kD s q≠0 then kD s q else if (q.kind≠1∧0 < q.dims.length)∨(q.kind≠2∧0 < q.terms.length)∨(q.kind≠3∧qa9 q.event cnd0 = false) then 11 else 0) = modE s q by
   rw [kD,if_neg h5,if_pos h6,modE]
   grind]
  refine sW ?_
  exact .oA [] []
 ·refine C1.im (qb7 s hs q) (by rfl) (by rfl) ?_
  rw [show (if kD s q≠0 then kD s q else if (q.kind≠1∧0 < q.dims.length)∨(q.kind≠2∧0 < q.terms.length)∨(q.kind≠3∧qa9 q.event cnd0 = false) then 11 else 0) = curE s q by
   rw [kD,if_neg h5,if_neg h6,curE]
   grind]
  refine sW ?_
  exact .oA [] []
end Go.Proofs
namespace Go.Proofs
open Go Go.TL
set_option maxRecDepth 4000
set_option maxHeartbeats 8000000
def usB (q:Qst) (k:Int):Bool:=decide (k > 0) && jg4 q k
theorem KH (q:Qst) (k:Int) (ht:q.terms.length < 4611686018427387904):Spc Tryz.prog kX [qstT q,vI k] [] (vB (usB q k)) []:=by
 refine qd ql1 mixm (by simp) fun e _ hst=>qg ?_
 unfold yx
 refine sW ?_
 refine C2.im (fun _=>yZ q.terms k ht) (fun _=>rfl) (by rfl) ?_
 refine sW ?_
 rw [show (decide (k > 0) && ((q.meas == k) || q.terms.contains k)) = usB q k from rfl]
 exact .oA [] []
def cnsL (q:Qst):List Cnd:=if q.kind = 3 then [q.filt,q.event] else [q.filt]
theorem JN (q:Qst):Spc Tryz.prog ko [qstT q] [] (vCs (cnsL q)) []:=by
 refine qd qf4 mixm (by simp) fun e _ hst=>qg ?_
 unfold wX
 simp only [tZ,↓un_u,simprocAttr,beq_iff_eq,beq_eq_false_iff_ne]
 refine ⟨fun h=>?_,fun h=>?_⟩
 ·rw [cnsL,if_pos h]
  show Qc [] _ _ (.sl 6 [cndT q.filt,cndT q.event]) []
  rw [zq,zq]
  exact .oA [] [12304]
 ·rw [cnsL,if_neg h]
  show Qc [] _ _ (.sl 6 [cndT q.filt]) []
  rw [zq]
  exact .oA [] [16392]
def canB (s:Sch) (c v:Int):Bool:=decide (1≤c) && decide (c < s.cols.length) && ju s c.toNat v
theorem zV8 {s:Sch} (hE:schE s = 0) {i:Nat} (h0:0 < i) (hi:i < s.cols.length) (v:Int):((qP8 s i (finI s i) v).2 && ((qP8 s i (finI s i) v).1 == v)) = ju s i v:=by
 have hok:=za hE
 have hk:=qY (hok.cs i hi)
 have h1:=hk.2.2.1 h0
 by_cases h2:(qh s i).kind = 2
 ·rw [qP8,if_neg (by omega)]
  have hself:∀ l∈qG s i,upC (qE s i) l (finI s i) = l:=fun l hl=>by
   have h3:=qb3 hE h0 hi h2 hl
   have h4:=QT h2 (hok.cdl hi h2).2 hl
   have h5:0≤finI s i:=by
    obtain ⟨_,d2⟩:=hok.cdl hi h2
    rw [finI,if_neg (by omega),Int.toNat_natCast,if_pos h2,qh5 d2];omega
   rw [qK,if_neg (by rw [Bool.not_eq_false,yk];omega),Int.toNat_natCast,if_pos h2,if_neg (by rw [h4];simp)] at h3
   exact h3
  cases hf:(qG s i).find? fun l=>upC (qE s i) l (finI s i) == v with
  | none=>
    rw [List.find?_eq_none] at hf
    show false = _
    symm
    cases hh:ju s i v with
    | false=>rfl
    | true=>
      rw [ju,if_neg (by omega),if_pos h2,Bool.and_eq_true,yk,beq_iff_eq] at hh
      obtain ⟨⟨g1,g2⟩,g3⟩:=hh
      obtain ⟨c,rfl⟩:=Int.eq_ofNat_of_zero_le g1
      obtain ⟨_,d2⟩:=hok.cdl hi h2
      rw [lvlC,if_neg (not_or.2 ⟨fun h=>h d2,by omega⟩),Int.toNat_natCast] at g3
      have hm:=(JK hok hi h2).2 ⟨c,rfl,by omega,g3⟩
      have:=hf _ hm
      rw [hself _ hm] at this
      simp at this
  | some l=>
    have h3:=List.mem_of_find?_eq_some hf
    have h4:=List.find?_some hf
    rw [hself l h3,beq_iff_eq] at h4
    subst h4
    show (true && (l == l)) = _
    rw [QT h2 (hok.cdl hi h2).2 h3]
    simp
 ·have h3:(qh s i).kind = 3:=by omega
  have hm:=hk.2.2.2.2 h3
  have hwl:1≤(qh s i).widths.length:=by unfold measE at hm;grind
  have hf:finI s i = (qh s i).widths.length:=by rw [finI,if_neg (by omega),Int.toNat_natCast,if_neg h2]
  obtain ⟨_,_,_,_,w5,w6,w7,w8⟩:=hok.wid hi h0 h2 (lev:=(qh s i).widths.length) (by omega)
  have hS:qP8 s i (qh s i).widths.length v = if 0 < ((qh s i).widths.length:Int)∧v = kO then (v,(qh s i).opt) else ((qm9 (qh s i) (qh s i).widths.length v).1,(qm9 (qh s i) (qh s i).widths.length v).2.2):=by rw [qP8,if_pos h3]
  have hH:ju s i v = (((qh s i).opt && (v == kO)) || inB v (qh s i).low (qh s i).high):=by rw [ju,if_neg (by omega),if_neg h2]
  rw [hf,hS,hH]
  generalize qh s i = x at w5 w6 w7 w8 hwl ⊢
  by_cases hv:v = kO
  ·subst hv
   rw [if_pos ⟨by omega,rfl⟩,show inB kO x.low x.high = false from qh9.2 (.inl (by unfold kO;omega))]
   simp
  ·rw [if_neg (fun h=>hv h.2),beq_eq_false_iff_ne.2 hv,Bool.and_false,Bool.false_or,qm9,if_neg (by omega)]
   by_cases hr:v < -2000000∨v > 1000000
   ·rw [if_pos hr,show inB v x.low x.high = false from qh9.2 (by omega)]
    rfl
   ·rw [if_neg hr,w8]
    have:qz v 1 * 1 = v:=by unfold qz;simp
    dsimp only
    rw [this,beq_self_eq_true,Bool.true_and,Bool.eq_iff_iff,Bool.and_eq_true,decide_eq_true_eq,beq_iff_eq,yk]
    omega
theorem WL (s:Sch) (hE:schE s = 0) (c v:Int):Spc Tryz.prog wH [schT s,vI c,vI v] [] (vB (canB s c v)) []:=by
 have hok:=za hE
 refine qd qq0 mixm (by simp) fun e _ hst=>qg ?_
 unfold Qj
 refine sD ?_
 refine ⟨fun h=>?_,fun h=>?_⟩
 ·rw [show canB s c v = false by
   unfold canB
   rw [show (decide (1≤c) && decide (c < s.cols.length)) = false by rw [Bool.and_eq_false_iff,decide_eq_false_iff_not,decide_eq_false_iff_not];omega]
   rfl]
  exact .oA [] []
 obtain ⟨i,rfl⟩:=Int.eq_ofNat_of_zero_le (show 0≤c by omega)
 have hi:i < s.cols.length:=by omega
 rw [show canB s i v = ju s i v by unfold canB;rw [decide_eq_true (by omega),decide_eq_true (by omega),Int.toNat_natCast];rfl]
 rw [← zV8 hE (by omega) hi]
 refine C1.im (yi s hok.sm i) (by rfl) (by rfl) ?_
 refine sW ?_
 have hf0:0≤finI s i:=by
  rw [finI,if_neg (by omega),Int.toNat_natCast]
  split
  ·rename_i h2
   obtain ⟨_,d2⟩:=hok.cdl hi h2
   rw [qh5 d2];omega
  ·omega
 refine C1.im (qP9 s hE i hi (by omega) (finI s i) v ⟨hf0,by omega⟩) (by rfl) (by rfl) ?_
 refine sW ?_
 repeat (first | refine ⟨by omega,?_⟩ | refine ⟨by kernel_rfl,?_⟩)
 exact .oA [] []
def qH0 (s:Sch) (q:Qst) (k a b:Int):Bool:=(usB q k && (a != b)) || (q.dims.any fun d=>(d.col == k) && (qK s k d.lev a != qK s k d.lev b)) || ((cnsL q).any fun c=>(atsC c).any fun x=>(x.col == k) && (jD s x a != jD s x b))
theorem zV9 {s:Sch} {q:Qst} (h:qstE s q = 0):schE s = 0∧(∀ c∈cnsL q,chkC s c = 0)∧q.dims.length≤3∧q.terms.length≤3:=by
 unfold qstE at h
 split at h
 ·rename_i h1;exact absurd h h1
 rename_i h1
 split at h
 ·cases h
 split at h
 ·cases h
 split at h
 ·rename_i h4;exact absurd h h4
 rename_i h4
 split at h
 ·rename_i h5;exact absurd h h5
 rename_i h5
 split at h
 ·cases h
 rename_i h6
 refine ⟨Classical.byContradiction h1,fun c hc=>?_,?_,?_⟩
 ·unfold cnsL at hc
  split at hc
  ·rename_i h7
   rcases List.mem_cons.1 hc with e | hc
   ·rw [e];exact Classical.byContradiction h4
   ·rw [List.mem_singleton.1 hc]
    refine Classical.byContradiction fun k=>h5 ?_
    rw [kD,if_neg (by omega),if_neg (by omega)]
    split
    ·simp
    ·split
     ·simp
     ·exact k
  ·rw [List.mem_singleton.1 hc];exact Classical.byContradiction h4
 ·by_cases h7:q.kind = 1
  ·refine Classical.byContradiction fun k=>h5 ?_
   rw [kD,if_pos h7,if_pos] <;> rw [Js,if_pos (by omega)] <;> simp
  ·refine Classical.byContradiction fun k=>h6 (.inl ⟨h7,by omega⟩)
 ·by_cases h7:q.kind = 2
  ·refine Classical.byContradiction fun k=>h5 ?_
   rw [kD,if_neg (by omega),if_pos h7]
   split
   ·simp
   ·rw [yg,if_pos (by omega)];simp
  ·refine Classical.byContradiction fun k=>h6 (.inr (.inl ⟨h7,by omega⟩))
end Go.Proofs
namespace Go.Proofs
open Go Go.TL
set_option maxRecDepth 4000
set_option maxHeartbeats 8000000
def mxl:List Pk→Int→Int
 | [],_=>0
 | p :: r,k=>if p.col = k then max p.lev (mxl r k) else mxl r k
theorem qb8:∀ (l:List Pk) (k:Int),0≤mxl l k
 | [],_=>Int.le_refl _
 | p :: r,k=>by
   have:=qb8 r k
   rw [mxl]
   split <;> omega
theorem qn7:∀ (a b:List Pk) (k:Int),mxl (a ++ b) k = max (mxl a k) (mxl b k)
 | [],b,k=>by
   have:=qb8 b k
   rw [List.nil_append,mxl];omega
 | p :: r,b,k=>by
   have:=qn7 r b k
   rw [List.cons_append,mxl,mxl,this]
   split <;> omega
theorem zW0 (l:List Pk) (p:Pk) (k:Int):mxl (l ++ [p]) k = if p.col = k then max (mxl l k) p.lev else mxl l k:=by
 have:=qb8 l k
 rw [qn7,mxl,mxl]
 split <;> omega
theorem Kz:∀ {l:List Pk} {k:Int},(∀ p∈l,p.col≠k)→mxl l k = 0
 | [],_,_=>rfl
 | p :: r,k,h=>by
   rw [mxl,if_neg (h p (by simp)),Kz fun x hx=>h x (List.mem_cons_of_mem _ hx)]
theorem zr7 {f:Nat→Int} (hf:∀ k,0≤f k):∀ {n:Nat} (k:Nat),mxl (canF f n) k = if k < n then f k else 0
 | 0,k=>by rw [if_neg (by omega)];rfl
 | n + 1,k=>by
   have ih:=zr7 hf (n:=n) k
   have hk:=hf k
   have hn:=hf n
   rw [canF,qn7,ih]
   by_cases e:n = k
   ·subst e
    rw [if_neg (show ¬ n < n by omega),if_pos (show n < n + 1 by omega)]
    split
    ·have:mxl [(⟨(n:Nat),f n⟩:Pk)] n = max (f n) 0:=by rw [mxl,if_pos rfl];rfl
     rw [this];omega
    ·rw [mxl];omega
   ·have h0:mxl (if 0 < f n then [(⟨n,f n⟩:Pk)] else []) k = 0:=Kz fun p hp=>by
     split at hp
     ·rw [List.mem_singleton.1 hp];dsimp only;omega
     ·simp at hp
    rw [h0]
    by_cases h:k < n
    ·rw [if_pos h,if_pos (by omega)];omega
    ·rw [if_neg h,if_neg (by omega)];omega
theorem qn8 {n:Nat}:∀ (l:List Pk) {f:Nat→Int},(∀ k,0≤f k)→(∀ p∈l,0≤p.col∧p.col < n)→WH (canF f n) l = canF (fun k=>max (f k) (mxl l k)) n
 | [],f,hf,_=>by
   show canF f n = _
   exact JM fun k _=>by have:=hf k;rw [mxl];omega
 | p :: r,f,hf,h=>by
   obtain ⟨h1,h2⟩:=h p (by simp)
   obtain ⟨c,hc⟩:=Int.eq_ofNat_of_zero_le h1
   have e:WH (canF f n) (p :: r) = WH (Kw (canF f n) p.col p.lev) r:=rfl
   rw [e,hc,qL0 hf (by omega),qn8 r (fun k=>by have:=hf k;unfold upd;split <;> omega) fun x hx=>h x (List.mem_cons_of_mem _ hx)]
   refine JM fun k _=>?_
   have:=hf k
   have h3:=qb8 r k
   unfold upd
   rw [mxl,hc]
   by_cases e:k = c
   ·subst e
    rw [if_pos rfl,if_pos rfl];omega
   ·rw [if_neg e,if_neg (by omega)]
theorem zw5 (n:Nat):canF (fun _=>0) n = []:=qB0 fun _ _=>Int.le_refl _
theorem zN6 {n:Nat} {l:List Pk} (h:∀ p∈l,0≤p.col∧p.col < n):WH [] l = canF (fun k=>mxl l k) n:=by
 rw [← zw5 n,qn8 l (fun _=>Int.le_refl _) h]
 exact JM fun k _=>by have:=qb8 l k;omega
theorem qB2 (a l m:List Pk):WH a (l ++ m) = WH (WH a l) m:=List.foldl_append
theorem zc1 {α:Type} (f:α→Pk) (m:List α):∀ l,WH l (m.map f) = m.foldl (fun l x=>Kw l (f x).col (f x).lev) l:=by
 induction m with
 | nil=>intro l;rfl
 | cons x r ih=>intro l;exact ih _
def atP (s:Sch) (c:Cnd):List Pk:=(atsC c).map fun a=>⟨a.col,decN s a⟩
theorem zh3 {s:Sch} {c:Cnd} (h:chkC s c = 0):zw s c = WH [] (atP s c):=by
 rw [zw,if_neg (by rw [h];simp),atP,zc1]
theorem JO {s:Sch} {c:Cnd} (h:chkC s c = 0):zw s c = canF (fun k=>mxl (atP s c) k) s.cols.length∧∀ p∈atP s c,1≤p.col∧p.col < s.cols.length:=by
 obtain ⟨hE,k2,k3,k4⟩:=qb2 h
 have hb:∀ p∈atP s c,1≤p.col∧p.col < s.cols.length:=fun p hp=>by
  obtain ⟨a,ha,rfl⟩:=List.mem_map.1 hp
  obtain ⟨hnd,hia⟩:=za8 c k4 a ha
  obtain ⟨n1,n2,n3⟩:=qi5 hE hnd hia
  obtain ⟨_,c1,c2,_⟩:=Qw (s:=s) (c:=a.col) (by omega)
  exact ⟨c1,c2⟩
 refine ⟨?_,hb⟩
 rw [zh3 h]
 exact zN6 fun p hp=>by have:=hb p hp;omega
theorem zW1 {s:Sch} {c:Cnd} (h:chkC s c = 0):∀ p∈zw s c,1≤p.col∧p.col < s.cols.length:=fun p hp=>by
 obtain ⟨h1,h2⟩:=JO h
 rw [h1,Yb] at hp
 obtain ⟨k,k1,k2,rfl⟩:=hp
 refine ⟨?_,by dsimp only;omega⟩
 dsimp only
 by_cases e:k = 0
 ·subst e
  rw [Kz fun q hq=>by have:=h2 q hq;omega] at k2
  omega
 ·omega
theorem WM {s:Sch} {c:Cnd} (h:chkC s c = 0) (k:Nat):mxl (zw s c) k = mxl (atP s c) k:=by
 obtain ⟨h1,h2⟩:=JO h
 rw [h1,zr7 fun k=>qb8 _ _]
 split
 ·rfl
 ·exact (Kz fun q hq=>by have:=h2 q hq;omega).symm
def dmP (s:Sch) (q:Qst):List Pk:=q.dims.map fun d=>⟨d.col,yh s d.col d.lev⟩
def usP (s:Sch) (q:Qst) (n:Nat):List Pk:=((List.range n).filter fun k:Nat=>usB q k).map fun k:Nat=>⟨k,yh s k (finI s k)⟩
theorem qR0 (s:Sch) (q:Qst) (n:Nat):usP s q (n + 1) = usP s q n ++ if usB q n = true then [⟨n,yh s n (finI s n)⟩] else []:=by
 rw [usP,List.range_succ,List.filter_append,List.map_append,← usP]
 congr 1
 by_cases h:usB q n = true
 ·rw [if_pos h,List.filter_cons_of_pos (p:=fun k:Nat=>usB q k) h];rfl
 ·rw [if_neg h,List.filter_cons_of_neg (p:=fun k:Nat=>usB q k) h];rfl
theorem zr8 (s:Sch) (q:Qst) (l:List Pk):∀ n:Nat,(List.range n).foldl (qp3 s q) l = WH l (usP s q (n + 1))
 | 0=>by
   show l = _
   have h0:usB q (0:Nat) = false:=by simp [usB]
   rw [qR0,h0,if_neg (by simp)];rfl
 | n + 1=>by
   rw [List.range_succ,List.foldl_append,zr8 s q l n,qR0 _ _ (n + 1),qB2]
   show qp3 s q _ n = _
   have h:usB q ((n + 1:Nat):Int) = jg4 q ((n:Int) + 1):=by
    unfold usB
    rw [decide_eq_true (by omega),Bool.true_and];rfl
   rw [qp3,h]
   split <;> rfl
def evP (s:Sch) (q:Qst):List Pk:=if q.kind = 3 then zw s q.event else []
theorem zh4 {s:Sch} {q:Qst} (h:qstE s q = 0):ZF s q = WH (zw s q.filt) (evP s q ++ dmP s q ++ usP s q s.cols.length):=by
 have hq:=qb4 h
 have hnc:=(za hq.sch).nc
 rw [ZF,if_neg (by rw [h];simp),jg5,zr8,show s.cols.length - 1 + 1 = s.cols.length by omega,qB2,qB2,dmP,zc1,evP]
 congr 2
 split <;> rfl
end Go.Proofs
namespace Go.Proofs
open Go Go.TL
set_option maxRecDepth 4000
set_option maxHeartbeats 8000000
theorem qs3 (s:Sch) (hok:SchOk s) (q:Qst) (hd:q.dims.length≤3) (ht:q.terms.length≤3) (hc:∀ c∈cnsL q,chkC s c = 0) (k a b:Int):Spc Tryz.prog Qf [schT s,qstT q,vI k,vI a,vI b] [] (vB (qH0 s q k a b)) []:=by
 have hs:=hok.sm
 have hT:qH0 s q k a b = ((usB q k && (a != b)) || (q.dims.any fun d=>(d.col == k) && (qK s k d.lev a != qK s k d.lev b)) || ((cnsL q).any fun c=>(atsC c).any fun x=>(x.col == k) && (jD s x a != jD s x b))):=rfl
 have hcl:(cnsL q).length≤2:=by unfold cnsL;split <;> simp
 rw [hT]
 refine qd qk9 mixm (by simp) fun e _ hst=>qg ?_
 unfold yw
 refine sW ?_
 refine C1.im (KH q k (by omega)) (by rfl) (by rfl) ?_
 refine sW ?_
 generalize (usB q k && (a != b)) = U
 refine ⟨fun h=>?_,fun h=>?_⟩
 ·rw [h]
  exact .oA [] []
 rw [h,Bool.false_or]
 refine qy mixm (α:=Nat) [28] (fun i=>i≤q.dims.length∧((q.dims.take i).any fun d=>(d.col == k) && (qK s k d.lev a != qK s k d.lev b)) = false) (fun i=>[(28,vI i)]) (fun i=>[(4096,.arr 2 [schT s] false),(4100,.arr 17 [qstT q] false)]) (fun i=>q.dims.length - i) 0 ⟨by omega,rfl⟩ ?_ fun i hi=>?_
 ·exact .oA [(4096,some 4096),(4100,some 4100)] []
 refine sD ?_
 refine ⟨fun h3=>?_,fun h3=>?_⟩
 ·have hi2:i < q.dims.length:=by omega
  have hwi:=qj (i:=i) (by omega)
  simp only [tZ,↓un_u,simprocAttr,Int.toNat_natCast,qe hi2]
  refine ⟨by omega,?_⟩
  have hC:=fun v=>qA5 s hs k q.dims[i].lev v
  refine C2.im (fun _=>hC a) (fun _=>rfl) (by rfl) ?_
  refine sW ?_
  refine C2.im (fun _=>hC b) (fun _=>rfl) (by rfl) ?_
  simp only [tZ,↓un_u,simprocAttr,hwi]
  repeat (first | refine ⟨by omega,?_⟩ | refine ⟨by kernel_rfl,?_⟩)
  refine ⟨fun h4=>?_,fun h4=>?_⟩
  ·rw [qw8 hi2 h4,Bool.true_or]
   exact .oA [] []
  ·refine ⟨i + 1,⟨by omega,ki hi2 hi.2 h4⟩,by omega,?_⟩
   exact .oA [(4096,some 4096),(4100,some 4100)] []
 ·have hil:i = q.dims.length:=by omega
  subst hil
  have hi2:=hi.2
  rw [List.take_length] at hi2
  rw [hi2,Bool.false_or]
  refine C1.im (JN q) (by rfl) (by rfl) ?_
  generalize cnsL q = L at hc hcl ⊢
  refine sW ?_
  refine qy mixm (α:=Nat) [55] (fun i=>i≤L.length∧((L.take i).any fun c=>(atsC c).any fun x=>(x.col == k) && (jD s x a != jD s x b)) = false) (fun i=>[(55,vI i)]) (fun i=>[(4096,.arr 2 [schT s] false)]) (fun i=>L.length - i) 0 ⟨by omega,rfl⟩ ?_ fun i hi=>?_
  ·exact .oA [(4096,some 4096)] []
  refine sD ?_
  refine ⟨fun h4=>?_,fun h4=>?_⟩
  ·have hi2:i < L.length:=by omega
   have hwi:=qj (i:=i) (by omega)
   obtain ⟨_,k2,_,k4⟩:=qb2 (hc _ (List.getElem_mem hi2))
   have hal:=qn3 L[i] 41 (by omega) k2
   have hao:=za8 L[i] k4
   have hhit:(((atsC L[i]).any fun x=>(x.col == k) && (jD s x a != jD s x b)) = true)→(L.any fun c=>(atsC c).any fun x=>(x.col == k) && (jD s x a != jD s x b)) = true:=fun h=>qw8 hi2 h
   have hgo:(((atsC L[i]).any fun x=>(x.col == k) && (jD s x a != jD s x b)) = false)→((L.take (i + 1)).any fun c=>(atsC c).any fun x=>(x.col == k) && (jD s x a != jD s x b)) = false:=fun h=>ki hi2 hi.2 h
   simp only [tZ,↓un_u,simprocAttr,Int.toNat_natCast,qe hi2,zq]
   refine ⟨by omega,?_⟩
   refine C1.im (JL L[i] 41 (by omega) (by omega) k2) (by rfl) (by rfl) ?_
   generalize atsC L[i] = A at hal hao hhit hgo ⊢
   refine sW ?_
   refine qy mixm (α:=Nat) [62] (fun j=>j≤A.length∧((A.take j).any fun x=>(x.col == k) && (jD s x a != jD s x b)) = false) (fun j=>[(62,vI j)]) (fun j=>[(4096,.arr 2 [schT s] false)]) (fun j=>A.length - j) 0 ⟨by omega,rfl⟩ ?_ fun j hj=>?_
   ·exact .oA [(4096,some 4096)] []
   refine sD ?_
   refine ⟨fun h5=>?_,fun h5=>?_⟩
   ·have hj2:j < A.length:=by omega
    have hwj:=qj (i:=j) (by omega)
    obtain ⟨hnd,ha⟩:=hao _ (List.getElem_mem hj2)
    have hAt:=KE s hok A[j] hnd ha
    simp only [tZ,↓un_u,simprocAttr,Int.toNat_natCast,qe hj2,zq]
    refine ⟨by omega,?_⟩
    refine C2.im (fun _=>hAt a) (fun _=>rfl) (by rfl) ?_
    refine sW ?_
    refine C2.im (fun _=>hAt b) (fun _=>rfl) (by rfl) ?_
    simp only [tZ,↓un_u,simprocAttr,hwj]
    repeat (first | refine ⟨by omega,?_⟩ | refine ⟨by kernel_rfl,?_⟩)
    refine ⟨fun h6=>?_,fun h6=>?_⟩
    ·rw [hhit (qw8 hj2 h6)]
     exact .oA [] []
    ·refine ⟨j + 1,⟨by omega,ki hj2 hj.2 h6⟩,by omega,?_⟩
     exact .oA [(4096,some 4096)] []
   ·have hjl:j = A.length:=by omega
    subst hjl
    have hj2:=hj.2
    rw [List.take_length] at hj2
    simp only [tZ,↓un_u,simprocAttr,hwi]
    refine ⟨i + 1,⟨by omega,hgo hj2⟩,by omega,?_⟩
    exact .oA [(4096,some 4096)] []
  ·have hil:i = L.length:=by omega
   subst hil
   have hi2:=hi.2
   rw [List.take_length] at hi2
   rw [hi2]
   exact .oA [] []
def Qa (s:Sch) (q:Qst) (k a b:Int):Bool:=(qstE s q == 0) && canB s k a && canB s k b && qH0 s q k a b
theorem jt (s:Sch) (hs:JI s) (q:Qst) (k a b:Int):Spc Tryz.prog zi [schT s,qstT q,vI k,vI a,vI b] [] (vB (Qa s q k a b)) []:=by
 refine qd qe1 mixm (by simp) fun e _ hst=>qg ?_
 unfold wR
 refine sW ?_
 refine C1.im (jP s hs q) (by rfl) (by rfl) ?_
 by_cases h0:qstE s q = 0
 ·obtain ⟨hE,hc,hd,ht⟩:=zV9 h0
  simp only [tZ,↓un_u,simprocAttr,h0,beq_self_eq_true]
  refine C2.im (fun _=>WL s hE k a) (fun _=>rfl) (by rfl) ?_
  refine sW ?_
  refine C2.im (fun _=>WL s hE k b) (fun _=>rfl) (by rfl) ?_
  refine sW ?_
  refine C2.im (fun _=>qs3 s (za hE) q hd ht hc k a b) (fun _=>rfl) (by rfl) ?_
  refine sW ?_
  rw [show Qa s q k a b = (canB s k a && canB s k b && qH0 s q k a b) by rw [Qa,h0];simp]
  exact .oA [] []
 ·have e:(qstE s q == 0) = false:=beq_eq_false_iff_ne.2 h0
  rw [show Qa s q k a b = false by rw [Qa,e];rfl]
  simp only [tZ,↓un_u,simprocAttr,e]
  refine C2.no (by simp) ?_
  refine sW ?_
  refine C2.no (by simp) ?_
  refine sW ?_
  refine C2.no (by simp) ?_
  refine sW ?_
  exact .oA [] []
end Go.Proofs
namespace Go.Proofs
open Go Go.TL
set_option maxRecDepth 4000
set_option maxHeartbeats 8000000
end Go.Proofs
namespace Go.Proofs
open Go Go.TL
set_option maxRecDepth 4000
set_option maxHeartbeats 8000000
def mxc:List Pk→Int
 | []=>0
 | p :: r=>max p.col (mxc r)
theorem zN7:∀ l:List Pk,0≤mxc l
 | []=>Int.le_refl _
 | p :: r=>by have:=zN7 r;rw [mxc];omega
theorem zr9:∀ (l:List Pk) (p:Pk),mxc (l ++ [p]) = max (mxc l) p.col
 | [],p=>by show max p.col 0 = max 0 p.col;omega
 | q :: r,p=>by rw [List.cons_append,mxc,mxc,zr9 r p];omega
theorem jc4 {n:Int} (hn:0≤n):∀ {l:List Pk},(∀ p∈l,p.col≤n)→mxc l≤n
 | [],_=>hn
 | p :: r,h=>by
   have h1:=h p (by simp)
   have h2:=jc4 hn (l:=r) fun q hq=>h q (List.mem_cons_of_mem _ hq)
   rw [mxc];omega
theorem jc5:∀ {l:List Pk} {p:Pk},p∈l→p.col≤mxc l
 | q :: r,p,h=>by
   rw [mxc]
   rcases List.mem_cons.1 h with e | h
   ·rw [e];omega
   ·have:=jc5 h;omega
theorem qn9 (ls:List (List Pk)) (n:Nat) (h1:1≤n) (h2:n≤1000) (hls:ls.length≤1000) (hl:∀ l∈ls,l.length≤1000) (hb:∀ l∈ls,∀ p∈l,0≤p.col∧p.col < n) :
 Spc Tryz.prog yr [.sl 1 (ls.map vPs)] [] (vPs (canF (fun k=>mxl ls.flatten k) n)) []:=by
 refine qd qf8 mixm (by simp) fun e _ hst=>qg ?_
 unfold wZ
 refine sW ?_
 refine qy mixm (α:=Nat×List (Int×Int)) [4,14] (fun y=>y.1≤ls.length∧∀ k,(TL.look TL.eqI k y.2).getD 0 = mxl (ls.take y.1).flatten k) (fun y=>[(4,vI (mxc (ls.take y.1).flatten)),(14,vI y.1)]) (fun y=>[(8192,.mp (.ii y.2))]) (fun y=>ls.length - y.1) (0,[]) ⟨by simp,fun k=>rfl⟩ ?_ fun y hy=>?_
 ·exact .oA [(8192,some 8192)] []
 obtain ⟨i,M⟩:=y
 obtain ⟨y1,y2⟩:=hy
 dsimp only at y1 y2
 refine sD ?_
 refine ⟨fun h=>?_,fun h=>?_⟩
 ·have hi:i < ls.length:=by omega
  have hwi:=qj (i:=i) (by omega)
  have hll:=hl _ (List.getElem_mem hi)
  have hbb:=hb _ (List.getElem_mem hi)
  have hfl:(ls.take (i + 1)).flatten = (ls.take i).flatten ++ ls[i]:=by rw [qO hi,List.flatten_append];simp
  generalize (ls.take i).flatten = A at y2 hfl ⊢
  simp only [tZ,↓un_u,simprocAttr,Int.toNat_natCast,qe hi]
  refine ⟨by omega,?_⟩
  generalize ls[i] = l at hll hbb hfl ⊢
  refine qy mixm (α:=Nat×List (Int×Int)) [4,20] (fun y=>y.1≤l.length∧∀ k,(TL.look TL.eqI k y.2).getD 0 = mxl (A ++ l.take y.1) k) (fun y=>[(4,vI (mxc (A ++ l.take y.1))),(20,vI y.1)]) (fun y=>[(8192,.mp (.ii y.2))]) (fun y=>l.length - y.1) (0,M) ⟨by simp,fun k=>by rw [List.take_zero,List.append_nil];exact y2 k⟩ ?_ fun y hy=>?_
  ·refine .of [(8192,some 8192)] [] rfl (by first | rfl | (rw [hst];rfl)) ?_ ?_
   all_goals (try simp only [tL,simprocAttr,List.map_append,List.map_cons,List.map_nil,List.cons_append,List.nil_append,List.take_zero,List.append_nil])
   all_goals (try (repeat' (first | exact qZ | (apply zy;intro _;exact ⟨rfl,rfl⟩) | (apply qD;intro _;exact ⟨rfl,rfl⟩) | with_reducible apply qR | with_reducible refine qT ⟨rfl,rfl⟩ ?_ | exact ze | with_reducible apply qH | with_reducible refine qM ⟨rfl,rfl,?_⟩ ?_ | with_reducible apply And.intro | exact qJ rfl | exact qJ (by assumption) | (refine ⟨⟨?_,rfl,?_,rfl,?_⟩,trivial⟩ <;> first | (simp;done) | (apply qD;intro _;exact ⟨rfl,rfl⟩)) | trivial | rfl | (rw [qj (by omega)]) | omega)))
  obtain ⟨j,N⟩:=y
  obtain ⟨z1,z2⟩:=hy
  dsimp only at z1 z2
  refine sD ?_
  refine ⟨fun h5=>?_,fun h5=>?_⟩
  ·have hj:j < l.length:=by omega
   have hwj:=qj (i:=j) (by omega)
   have hts:A ++ l.take (j + 1) = A ++ l.take j ++ [l[j]]:=by rw [qO hj,List.append_assoc]
   have hnew:∀ k,(TL.look TL.eqI k (TL.asg TL.eqI l[j].col (max (mxl (A ++ l.take j) l[j].col) l[j].lev) N)).getD 0 = mxl (A ++ l.take (j + 1)) k:=fun k=>by
    rw [qi6,hts,zW0]
    by_cases e:k = l[j].col
    ·subst e
     rw [if_pos rfl,if_pos rfl];rfl
    ·rw [if_neg e,if_neg (fun h=>e h.symm)]
     exact z2 k
   have hx:=zr9 (A ++ l.take j) l[j]
   rw [← hts] at hx
   have hz:=z2 l[j].col
   simp only [tZ,↓un_u,simprocAttr,Int.toNat_natCast,qe hj,hwj,zb3,hz,← hx]
   refine ⟨by omega,by kernel_rfl,?_⟩
   refine ⟨(j + 1,_),⟨by dsimp only;omega,hnew⟩,by dsimp only;omega,?_⟩
   exact .oA [(8192,some 8192)] []
  ·have hjl:j = l.length:=by omega
   subst hjl
   rw [List.take_length,← hfl] at z2 ⊢
   simp only [tZ,↓un_u,simprocAttr,hwi]
   refine ⟨(i + 1,N),⟨by dsimp only;omega,z2⟩,by dsimp only;omega,?_⟩
   exact .oA [(8192,some 8192)] []
 ·have hil:i = ls.length:=by omega
  subst hil
  rw [List.take_length] at y2 ⊢
  have hbf:∀ p∈ls.flatten,0≤p.col∧p.col < n:=fun p hp=>by
   obtain ⟨l,hl,hpl⟩:=List.mem_flatten.1 hp
   exact hb l hl p hpl
  have hml:=jc4 (n:=n - 1) (by omega) (l:=ls.flatten) fun p hp=>by have:=hbf p hp;omega
  have hmp:=zN7 ls.flatten
  have hmore:canF (fun k=>mxl ls.flatten k) n = canF (fun k=>mxl ls.flatten k) ((mxc ls.flatten).toNat + 1):=by
   rw [show n = (mxc ls.flatten).toNat + 1 + (n - ((mxc ls.flatten).toNat + 1)) by omega,zb8]
   intro k hk _
   rw [Kz fun p hp=>by have:=jc5 hp;omega]
   exact Int.le_refl _
  rw [hmore]
  obtain ⟨c,hc⟩:=Int.eq_ofNat_of_zero_le hmp
  rw [hc,Int.toNat_natCast]
  have hwc:=qj (i:=c) (by omega)
  rw [hwc]
  generalize ls.flatten = A at y2 ⊢
  refine qy mixm (α:=Nat) [9,42] (fun k=>k≤c + 1) (fun k=>[(9,.asl 1 (canF (fun k=>mxl A k) k).length),(42,vI k)]) (fun k=>[(8192,.mp (.ii M)),(1,.arr 2 ((canF (fun k=>mxl A k) k).map pkT) false)]) (fun k=>c + 1 - k) 0 (by omega) ?_ fun k hk=>?_
  ·exact .oA [(8192,some 8192),(1,none)] []
  have hcl:=qQ9 (fun k=>mxl A k) k
  have hcs:canF (fun k=>mxl A k) (k + 1) = canF (fun k=>mxl A k) k ++ (if 0 < mxl A k then [⟨(k:Nat),mxl A k⟩] else []):=by rw [canF]
  have hz:=y2 k
  refine sD ?_
  refine ⟨fun h5=>?_,fun h5=>?_⟩
  ·have hwk:=qj (i:=k) (by omega)
   simp only [tZ,↓un_u,simprocAttr,hz,hwk,gt_iff_lt,tD]
   refine ⟨fun h6=>?_,fun h6=>?_⟩
   ·rw [if_pos h6] at hcs
    refine ⟨by omega,k + 1,by omega,by omega,?_⟩
    rw [hcs,List.map_append,List.length_append]
    exact .oA [(8192,some 8192),(1,some 1)] []
   ·rw [if_neg h6,List.append_nil] at hcs
    refine ⟨k + 1,by omega,by omega,?_⟩
    rw [hcs]
    exact .oA [(8192,some 8192),(1,some 1)] []
  ·rw [show k = c + 1 by omega]
   exact .oA [] [1]
theorem zc2 {s:Sch} {q:Qst} (hq:QstOk s q):∀ d∈q.dims,Jr s d = 0∧isB s d.col 2 = true:=fun d hd=>by
 by_cases h1:q.kind = 1
 ·have h2:=(hq.dims h1).1
  unfold Js at h2
  split at h2
  ·cases h2
  obtain ⟨i,hi,rfl⟩:=List.getElem_of_mem hd
  have h3:=qK8 h2 i hi
  have hp:pkAt q.dims i = q.dims[i]:=by rw [pkAt,qk hi]
  unfold dimE at h3
  rw [hp] at h3
  split at h3
  ·rename_i h4;exact absurd h3 h4
  rename_i h4
  split at h3
  ·cases h3
  rename_i h5
  exact ⟨Classical.byContradiction h4,by simpa using h5⟩
 ·rw [hq.d0 h1] at hd
  simp at hd
theorem zN8 {s:Sch} {q:Qst} (hq:QstOk s q):∀ c∈cnsL q,chkC s c = 0:=fun c hc=>by
 unfold cnsL at hc
 split at hc
 ·rename_i h
  rcases List.mem_cons.1 hc with e | hc
  ·rw [e];exact hq.filt
  ·rw [List.mem_singleton.1 hc];exact (hq.event h).2.2
 ·rw [List.mem_singleton.1 hc];exact hq.filt
theorem zN9 {s:Sch} {q:Qst} {n:Nat} {p:Pk}:p∈usP s q n↔∃ k:Nat,k < n∧usB q k = true∧p = ⟨k,yh s k (finI s k)⟩:=by
 unfold usP
 simp only [List.mem_map,List.mem_filter,List.mem_range]
 constructor
 ·rintro ⟨k,⟨h1,h2⟩,rfl⟩;exact ⟨k,h1,h2,rfl⟩
 ·rintro ⟨k,h1,h2,rfl⟩;exact ⟨k,⟨h1,h2⟩,rfl⟩
theorem jh3 (s:Sch) (q:Qst) (n:Nat):(usP s q n).length≤n:=by
 unfold usP
 rw [List.length_map]
 have:=List.length_filter_le (fun k:Nat=>usB q k) (List.range n)
 rw [List.length_range] at this
 exact this
def qb9 (s:Sch) (q:Qst):List Pk:=dmP s q ++ usP s q s.cols.length ++ (cnsL q).flatMap (zw s)
theorem qR1 {s:Sch} {q:Qst} (hq:QstOk s q):∀ p∈qb9 s q,1≤p.col∧p.col < s.cols.length:=fun p hp=>by
 unfold qb9 at hp
 rcases List.mem_append.1 hp with hp | hp
 ·rcases List.mem_append.1 hp with hp | hp
  ·obtain ⟨d,hd,rfl⟩:=List.mem_map.1 hp
   obtain ⟨_,h1,h2,_⟩:=zr3 (zc2 hq d hd).1
   exact ⟨h1,h2⟩
  ·obtain ⟨k,h1,h2,rfl⟩:=zN9.1 hp
   unfold usB at h2
   rw [Bool.and_eq_true,decide_eq_true_eq] at h2
   exact ⟨by dsimp only;omega,by dsimp only;omega⟩
 ·obtain ⟨c,hc,hp⟩:=List.mem_flatMap.1 hp
  exact zW1 (zN8 hq c hc) p hp
theorem JP {s:Sch} {q:Qst} (h:qstE s q = 0):ZF s q = canF (fun k=>mxl (qb9 s q) k) s.cols.length:=by
 have hq:=qb4 h
 have hb:=qR1 hq
 obtain ⟨n1,n2⟩:=JO hq.filt
 rw [zh4 h,n1,qn8 _ (fun k=>qb8 _ _) fun p hp=>?_]
 ·refine JM fun k _=>?_
  rw [← WM hq.filt k]
  have e:(cnsL q).flatMap (zw s) = zw s q.filt ++ evP s q:=by
   unfold cnsL evP
   split <;> simp
  rw [qb9,e]
  simp only [qn7]
  omega
 ·have:p∈qb9 s q:=by
   unfold qb9
   have e:(cnsL q).flatMap (zw s) = zw s q.filt ++ evP s q:=by
    unfold cnsL evP
    split <;> simp
   rw [e]
   simp only [List.mem_append] at hp ⊢
   rcases hp with (h | h) | h
   ·exact .inr (.inr h)
   ·exact .inl (.inl h)
   ·exact .inl (.inr h)
  have:=hb p this
  omega
theorem kA (s:Sch) (hs:JI s) (q:Qst):Spc Tryz.prog zI [schT s,qstT q] [] (vPs (ZF s q)) []:=by
 refine JU [15] qe5 mixm (by simp) fun e _ hst=>qg ?_
 unfold wT
 simp only [KJ,List.contains_cons,List.contains_nil,Nat.reduceBEq,Bool.or_false,Bool.or_true,Bool.true_or,Bool.false_or,cond_true,cond_false]
 refine sW ?_
 refine C1.im (jP s hs q) (by rfl) (by rfl) ?_
 simp only [tZ,↓un_u,simprocAttr,bne_iff_ne,bne_eq_false_iff_eq]
 refine ⟨fun h=>?_,fun h=>?_⟩
 ·rw [ZF,if_pos h]
  exact .oA [] []
 have hq:=qb4 h
 have hok:=za hq.sch
 have hnc:=hok.nc
 have hnd:=hq.nd
 have hnt:=hq.nt
 have hck:=zN8 hq
 have hcl:(cnsL q).length≤2:=by unfold cnsL;split <;> simp
 have hdl:(dmP s q).length = q.dims.length:=List.length_map _
 have hbd:=qR1 hq
 refine qy mixm (α:=Nat) [5,19] (fun i=>i≤q.dims.length) (fun i=>[(5,.asl 1 ((dmP s q).take i).length),(19,vI i)]) (fun i=>[(4096,.arr 2 [schT s] false),(4100,.arr 17 [qstT q] false),(1,.arr 2 (((dmP s q).take i).map pkT) false)]) (fun i=>q.dims.length - i) 0 (by omega) ?_ fun i hi=>?_
 ·exact .oA [(4096,some 4096),(4100,some 4100),(1,none)] []
 refine sD ?_
 refine ⟨fun h3=>?_,fun h3=>?_⟩
 ·have hi2:i < q.dims.length:=by omega
  have hwi:=qj (i:=i) (by omega)
  have hts:(dmP s q).take (i + 1) = (dmP s q).take i ++ [⟨q.dims[i].col,yh s q.dims[i].col q.dims[i].lev⟩]:=by
   rw [qO (by omega)]
   simp only [dmP,List.getElem_map]
  have hLe:=YB s hs q.dims[i].col q.dims[i].lev
  have htl:((dmP s q).take i).length≤3:=by rw [List.length_take];omega
  simp only [tZ,↓un_u,simprocAttr,Int.toNat_natCast,qe hi2]
  refine ⟨by omega,?_⟩
  refine C1.im hLe (by rfl) (by rfl) ?_
  simp only [tZ,↓un_u,simprocAttr,hwi]
  refine ⟨by omega,by kernel_rfl,i + 1,by omega,by omega,?_⟩
  rw [hts,List.map_append,List.length_append]
  exact .oA [(4096,some 4096),(4100,some 4100),(1,some 1)] []
 ·have hil:i = q.dims.length:=by omega
  subst hil
  rw [← hdl,List.take_length]
  refine qy mixm (α:=Nat) [5,39] (fun i=>i≤s.cols.length) (fun i=>[(5,.asl 1 (dmP s q ++ usP s q i).length),(39,vI i)]) (fun i=>[(4096,.arr 2 [schT s] false),(4100,.arr 17 [qstT q] false),(1,.arr 2 ((dmP s q ++ usP s q i).map pkT) false)]) (fun i=>s.cols.length - i) 0 (by omega) ?_ fun i hi=>?_
  ·rw [show usP s q 0 = [] from rfl,List.append_nil]
   exact .oA [(4096,some 4096),(4100,some 4100),(1,some 1)] []
  have hul:=jh3 s q i
  have hus:=qR0 s q i
  have hoL:(dmP s q ++ usP s q i).length≤1000000:=by rw [List.length_append];omega
  refine sD ?_
  refine ⟨fun h3=>?_,fun h3=>?_⟩
  ·have hi2:i < s.cols.length:=by omega
   have hwi:=qj (i:=i) (by omega)
   refine C1.im (KH q i (by omega)) (by rfl) (by rfl) ?_
   refine sW ?_
   refine ⟨fun h4=>?_,fun h4=>?_⟩
   ·rw [if_pos h4] at hus
    refine C1.im (yi s hs i) (by rfl) (by rfl) ?_
    refine sW ?_
    refine C1.im (YB s hs i (finI s i)) (by rfl) (by rfl) ?_
    simp only [tZ,↓un_u,simprocAttr,hwi]
    refine ⟨by omega,by kernel_rfl,i + 1,by omega,by omega,?_⟩
    rw [hus,← List.append_assoc,List.map_append,List.length_append (bs:=[_])]
    exact .oA [(4096,some 4096),(4100,some 4100),(1,some 1)] []
   ·rw [if_neg (by rw [h4];simp),List.append_nil] at hus
    simp only [tZ,↓un_u,simprocAttr,hwi]
    refine ⟨i + 1,by omega,by omega,?_⟩
    rw [hus]
    exact .oA [(4096,some 4096),(4100,some 4100),(1,some 1)] []
  ·have hil:i = s.cols.length:=by omega
   subst hil
   rw [JP h]
   unfold qb9 at hbd ⊢
   have hll:(dmP s q ++ usP s q s.cols.length).length = (dmP s q).length + (usP s q s.cols.length).length:=List.length_append
   generalize dmP s q ++ usP s q s.cols.length = own at hoL hbd hll ⊢
   refine W_le [(2,.ptr 4096 1 0 0),(3,.ptr 4100 1 0 0),(5,vPs own)] [(4096,.arr 2 [schT s] false),(4100,.arr 17 [qstT q] false)] ?_ ?_
   ·exact .oA [(4096,some 4096),(4100,some 4100)] [1]
   refine sW ?_
   refine C1.im (JN q) (by rfl) (by rfl) ?_
   generalize cnsL q = L at hck hcl hbd ⊢
   refine sW ?_
   refine qy mixm (α:=Nat) [9,62] (fun i=>i≤L.length) (fun i=>[(9,.asl 65540 (i + 1)),(62,vI i)]) (fun i=>[(4096,.arr 2 [schT s] false),(65540,.arr 1 (vPs own :: (L.take i).map fun c=>vPs (zw s c)) false)]) (fun i=>L.length - i) 0 (by omega) ?_ fun i hi=>?_
   ·exact .oA [(4096,some 4096),(65540,some 65540)] []
   have htl:(L.take i).length = i:=by rw [List.length_take];omega
   refine sD ?_
   refine ⟨fun h3=>?_,fun h3=>?_⟩
   ·have hi2:i < L.length:=by omega
    have hwi:=qj (i:=i) (by omega)
    have hN:=qn6 s hs L[i]
    simp only [tZ,↓un_u,simprocAttr,Int.toNat_natCast,qe hi2,zq]
    refine ⟨by omega,?_⟩
    refine C1.im hN (by rfl) (by rfl) ?_
    simp only [tZ,↓un_u,simprocAttr,hwi]
    refine ⟨by omega,i + 1,by omega,by omega,?_⟩
    rw [qO hi2,List.map_append]
    exact .oA [(4096,some 4096),(65540,some 65540)] []
   ·have hil:i = L.length:=by omega
    subst hil
    rw [List.take_length]
    have hfl:(own :: L.map (zw s)).flatten = own ++ L.flatMap (zw s):=by rw [List.flatten_cons,List.flatMap_def]
    have hbb:∀ l∈own :: L.map (zw s),∀ p∈l,0≤p.col∧p.col < s.cols.length:=fun l hl p hp=>by
     have:=hbd p (by rw [← hfl];exact List.mem_flatten.2 ⟨l,hl,hp⟩)
     omega
    have hbl:∀ l∈own :: L.map (zw s),l.length≤1000:=fun l hl=>by
     rcases List.mem_cons.1 hl with e | hl
     ·rw [e];omega
     ·obtain ⟨c,_,rfl⟩:=List.mem_map.1 hl
      have:=qi8 s c
      omega
    have hM:=qn9 (own :: L.map (zw s)) s.cols.length (by omega) (by omega) (by rw [List.length_cons,List.length_map];omega) hbl hbb
    rw [hfl,List.map_cons,List.map_map] at hM
    refine C1.shut [65540] hM ?_ (by rfl) rfl ?_
    ·all_goals (try exact clA)
    refine sW ?_
    exact .oA [] []
theorem wx (s:Sch) (hs:JI s) (q:Qst) (l:List Pk) (hl:l.length < 4611686018427387904):Spc Tryz.prog zL [schT s,qstT q,vPs l] [] (vB (sufB s q l)) []:=by
 have hnl:=qB1 s q
 refine qd Yh mixm (by simp) fun e _ hst=>qg ?_
 unfold kJ
 refine sW ?_
 refine C1.im (jP s hs q) (by rfl) (by rfl) ?_
 refine sW ?_
 refine C2.im (fun _=>qG9 s hs l hl) (fun _=>rfl) (by rfl) ?_
 refine sW ?_
 refine C2.im (fun _=>kA s hs q) (fun _=>rfl) (by rfl) ?_
 refine sW ?_
 refine C2.im (fun _=>qi7 l (ZF s q) hl (by omega)) (fun _=>rfl) (by rfl) ?_
 refine sW ?_
 rw [show (qstE s q == 0 && WG s l == 0 && covB (ZF s q) l) = sufB s q l from rfl]
 exact .oA [] []
end Go.Proofs
namespace Go.Proofs
open Go Go.TL
theorem zz (l:List UInt8) (at_:Nat) (lo hi:Int) (hl:l.length≤400) (ha:at_≤l.length) (hlo : -1000000≤lo∧lo≤1000000) (hhi:lo≤hi∧hi≤lo + 100000) :
 Spc Tryz.prog qS [.ptr 0 1 0 0,vI lo,vI hi] [(0,oC l at_)] (vI (lo + (nx l at_ (hi - lo + 1)).1)) [(0,oC l (nx l at_ (hi - lo + 1)).2)]:=by
 refine qd YN mixm (by simp) fun e _ hst=>qg ?_
 unfold wn
 have hw1:IntKind.i64.wrap (hi - lo) = hi - lo:=IntWalk.i64_in _ (by omega)
 have hw2:IntKind.i64.wrap (hi - lo + 1) = hi - lo + 1:=IntWalk.i64_in _ (by omega)
 simp only [tZ,↓un_u,simprocAttr,hw1,hw2]
 refine C1.draw 0 l at_ _ (zJ l at_ (hi - lo + 1) hl ha (by omega)) rfl rfl rfl ?_
 have hr:=kW l at_ (hi - lo + 1) (by omega)
 have hw3:IntKind.i64.wrap (lo + (nx l at_ (hi - lo + 1)).1) = lo + (nx l at_ (hi - lo + 1)).1:=IntWalk.i64_in _ (by omega)
 simp only [tZ,↓un_u,simprocAttr,hw3]
 refine .of [(0,some 0)] [] rfl rfl ?_ ?_
 ·simp only [tL,simprocAttr]
  exact qM ⟨rfl,rfl,rfl,rfl,trivial⟩ qZ
 ·simp only [tL,simprocAttr]
end Go.Proofs
namespace Go.Proofs
open Go Go.TL
set_option maxRecDepth 4000
def iter {α:Type} (f:α→α):Nat→α→α
 | 0,x=>x
 | n + 1,x=>f (iter f n x)
def tie (p:Int×Int):Int:=p.1 * 1024 + p.2
def cut (n:Int):Int×Int:=(n / 1024,n % 1024)
end Go.Proofs
namespace Go.Proofs
open Go Go.TL
set_option maxHeartbeats 4000000
open So
def drw0 (seed id:Int):Int:=IntKind.u64.wrap (IntKind.u64.wrap (IntKind.u64.wrap (IntKind.u64.wrap seed * 2654435761) + IntKind.u64.wrap (IntKind.u64.wrap id * 40503)) + 97)
def drwA (h:Int):Int:=IntKind.u64.wrap (IntKind.u64.wrap (h * 6364136223846793005) + 1442695040888963407)
def drwX (h:Int):Int:=xorI .u64 (drwA h) (shrI .u64 (drwA h) 29)
def drwI (seed id:Int):Int:=IntKind.i64.wrap (shrI .u64 (iter drwX 3 (drw0 seed id)) 32)
def inS (x:Smp) (id:Int):Bool:=(smpE x == 0) && decide (1≤id) && decide (id≤1048575) && decide ((drwI x.seed id).tmod x.of < x.part)
def ownP (s:Src) (d:Dcl) (r:List Int):Bool:=(jo1 s.sch d.coh r == 1) && inS d.smp (hd r)
def ownR (s:Src) (d:Dcl):List (List Int):=if srcB s = false∨dclE s.sch d≠0 then [] else s.rows.filter (ownP s d)
def ownS (s:Src) (d:Dcl):List Int:=(ownR s d).map hd
end Go.Proofs
namespace Go.Proofs
open Go Go.TL
set_option maxHeartbeats 4000000
def buildE (s:Src) (d:Dcl) (l:List Pk) (k:Int):Int:=if srcB s = false then 13 else if jm1 s.sch d l≠0 then jm1 s.sch d l else if k < 0∨k≥1152921504606846976 then 2 else 0
end Go.Proofs
