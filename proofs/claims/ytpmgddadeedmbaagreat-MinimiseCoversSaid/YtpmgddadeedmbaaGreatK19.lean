/- A part of the proof: trees of Go values, short forms, contracts. -/
import Derived.WalkKit
import Derived.Still
import Derived.MapKept
import GoSem.Builtin.Cap
import Derived.Laws.Externs
import GoSem.Extern.SlicesOverlaps
import Derived.Carry
import Derived.ProofKit
import Derived.OpenShut
import Derived.HandedShaped
import Derived.Lay
import Derived.LaidLaws
import Derived.MakeChecks
import Derived.SevenTiedAt
import Derived.Test.YtpmgddadeedmbaaGreatChecked
import Derived.Test.YtpmgddadeedmbaaGreatK18
set_option linter.unusedSimpArgs false
set_option linter.unusedVariables false
namespace Go.Proofs
open Go Go.TL
set_option maxRecDepth 4000
set_option maxHeartbeats 8000000
def kiI (s:Sch) (c:Int):Int:=if c < 0∨c≥s.cols.length then 0 else (qh s c.toNat).kind
theorem zI1 {s:Sch} {c k:Int} (hk:k≠0):(kiI s c == k) = isB s c k:=by
 rw [Bool.eq_iff_iff,beq_iff_eq,Qn,kiI]
 split
 ·constructor
  ·intro h;omega
  ·intro h;omega
 ·constructor
  ·intro h;exact ⟨by omega,by omega,h⟩
  ·intro h;exact h.2.2
theorem qI8 {s:Sch} {c k:Int} (hk:k≠0):isB s c k = false↔kiI s c≠k:=by rw [← zI1 hk,beq_eq_false_iff_ne]
theorem zN3 {s:Sch} {c k:Int} (hk:k≠0):isB s c k = true↔kiI s c = k:=by rw [← zI1 hk,beq_iff_eq]
theorem zk (s:Sch) (c:Int):Spc Tryz.prog qU [schT s,vI c] [] (vI (kiI s c)) []:=by
 refine qd JJ mixm (by simp) fun e _ hst=>qk ?_
 unfold jL
 refine sD ?_
 refine ⟨fun h=>?_,fun h=>?_⟩
 ·rw [kiI,if_pos (by omega)]
  exact .oA [] []
 obtain ⟨i,rfl⟩:=Int.eq_ofNat_of_zero_le (show 0≤c by omega)
 have hi:i < s.cols.length:=by omega
 rw [kiI,if_neg (by omega),Int.toNat_natCast,qh,qr hi]
 simp only [tZ,↓un_u,simprocAttr,Int.toNat_natCast,qe hi]
 refine ⟨by omega,?_⟩
 exact .oA [] []
theorem empC (c:Cnd):((c.op == 0) && (c.col == 0) && (c.code == 0) && (c.lo == 0) && (c.hi == 0) && ((c.kids.length:Int) == 0)) = Yk c cnd0:=by
 rw [zA3]
 show _ = ((c.op == 0) && (c.col == 0) && (c.code == 0) && (c.lo == 0) && (c.hi == 0) && qH2 c.kids [])
 congr 1
 cases c.kids with
 | nil=>rfl
 | cons x r=>
   rw [qH2]
   exact beq_eq_false_iff_ne.2 (by simp;omega)
theorem Qs (c:Cnd):Spc Tryz.prog ji [cnT c] [] (vB (Yk c cnd0)) []:=by
 refine qd Kt mixm (by simp) fun e _ hst=>qk ?_
 unfold kf
 refine sW ?_
 rw [← empC]
 exact .oA [] []
theorem JO (x y:Pk):Spc Tryz.prog zN [pkT x,.ip (pkT y).cells] [] (vB (x.col == y.col)) []:=by
 refine qd Jb mixm (by simp) fun e _ hst=>qk ?_
 unfold jz
 refine sW ?_
 exact .oA [] []
def tabE (s:Sch) (q:Qst):Int:=if Jd s q.dims≠0 then Jd s q.dims else if q.meas≠-1∧isB s q.meas 3 = false then 7 else if 0 < q.terms.length∨Yk q.event cnd0 = false then 11 else 0
theorem Wm (s:Sch) (hs:Jc s) (q:Qst):Spc Tryz.prog ky [schT s,qstT q] [] (vI (tabE s q)) []:=by
 have hT:tabE s q = if Jd s q.dims≠0 then Jd s q.dims else if q.meas≠-1∧isB s q.meas 3 = false then 7 else if 0 < q.terms.length∨Yk q.event cnd0 = false then 11 else 0:=rfl
 have hTD:Jd s q.dims≠0→tabE s q = Jd s q.dims:=fun h=>by rw [hT,if_pos h]
 refine qd Kn mixm (by simp) fun e _ hst=>qk ?_
 unfold jZ
 refine sD ?_
 refine ⟨fun h=>?_,fun h=>?_⟩
 ·have:Jd s q.dims = 1:=by rw [Jd,if_pos (by omega)]
  rw [hTD (by rw [this];simp),this]
  exact .oA [] []
 have hD:Jd s q.dims = zF (dimE s q.dims) q.dims.length:=by rw [Jd,if_neg (by omega)]
 generalize tabE s q = E at hT hTD ⊢
 refine qw mixm (α:=Nat) [21] (fun i=>i≤q.dims.length∧(zF (dimE s q.dims) i = 0)) (fun i=>[(21,vI i)]) (fun i=>[(4096,.arr 2 [schT s] false),(4100,.arr 17 [qstT q] false)]) (fun i=>q.dims.length - i) 0 ⟨by omega,?_⟩ ?_ fun i hi=>?_
 ·rfl
 ·exact .oA [(4096,some 4096),(4100,some 4100)] []
 simp only [tZ,↓un_u,simprocAttr,decide_eq_true_eq,decide_eq_false_iff_not]
 refine ⟨fun h=>?_,fun h=>?_⟩
 ·have hi2:i < q.dims.length:=by omega
  have hpi:pkAt q.dims i = q.dims[i]:=by rw [pkAt,qr hi2]
  have hstep:=Ka hi.2 hi2
  have hnext:=wV hi.2
  have hA:dimE s q.dims i = if ZE s q.dims[i]≠0 then ZE s q.dims[i] else if isB s q.dims[i].col 2 = false then 7 else if ((q.dims.take i).any fun x=>x.col == q.dims[i].col) = true then 10 else 0:=by rw [dimE,hpi]
  rw [← hD] at hstep
  have hbad:dimE s q.dims i≠0→E = dimE s q.dims i:=fun h=>by rw [hTD (by rw [hstep h];exact h),hstep h]
  have hi2:i < q.dims.length:=by omega
  have hwi:=qo (i:=i) (by omega)
  simp only [tZ,↓un_u,simprocAttr,Int.toNat_natCast,qe hi2,hwi]
  refine ⟨by omega,?_⟩
  refine C1.im (qx6 s hs q.dims[i]) (by rfl) (by rfl) ?_
  simp only [tZ,↓un_u,simprocAttr,bne_iff_ne,bne_eq_false_iff_eq]
  refine ⟨fun h3=>?_,fun h3=>?_⟩
  ·rw [if_pos h3] at hA
   rw [hbad (by rw [hA];exact h3),hA]
   exact .oA [] []
  rw [if_neg (by rw [h3];simp)] at hA
  refine C1.im (zk s q.dims[i].col) (by rfl) (by rfl) ?_
  have hki:=qI8 (s:=s) (c:=q.dims[i].col) (k:=2) (by decide)
  simp only [tZ,↓un_u,simprocAttr,bne_iff_ne,bne_eq_false_iff_eq]
  refine ⟨fun h4=>?_,fun h4=>?_⟩
  ·rw [if_pos (hki.2 h4)] at hA
   rw [hbad (by rw [hA];simp),hA]
   exact .oA [] []
  rw [if_neg (fun h=>hki.1 h h4)] at hA
  have hCF:=zI (fun x=>x.col == q.dims[i].col) zN [.ip (pkT q.dims[i]).cells] rfl (q.dims.take i) (fun x _=>JO x q.dims[i]) (by rw [List.length_take];omega)
  refine ⟨by omega,?_⟩
  rw [qj7,qF9]
  refine C1.lend [24588] hCF ?_ (by rfl) (by rfl) ?_
  ·all_goals (try simp only [tL,simprocAttr,List.map_append,List.map_cons,List.map_nil,List.cons_append,List.nil_append])
   all_goals (try (repeat' (first | exact zh | (apply zB;intro _;exact ⟨rfl,rfl⟩) | (apply qz;intro _;exact ⟨rfl,rfl⟩) | with_reducible apply qQ | with_reducible refine qD ⟨rfl,rfl⟩ ?_ | exact qR | with_reducible apply qJ | with_reducible refine qW ⟨rfl,rfl,?_⟩ ?_ | with_reducible apply And.intro | exact qK rfl | exact qK (by assumption) | (refine ⟨⟨?_,rfl,?_,rfl,?_⟩,trivial⟩ <;> first | (simp;done) | (apply qz;intro _;exact ⟨rfl,rfl⟩)) | trivial | rfl | (rw [qo (by omega)]) | omega)))
   simp only [ltP]
   exact ⟨rfl,by decide,rfl,qD ⟨rfl,rfl⟩ qR⟩
  simp only [tZ,↓un_u,simprocAttr,hwi]
  refine ⟨fun h5=>?_,fun h5=>?_⟩
  ·rw [if_pos h5] at hA
   rw [hbad (by rw [hA];simp),hA]
   exact .oA [] []
  ·rw [if_neg (by rw [h5];simp)] at hA
   refine ⟨i + 1,⟨by omega,by rw [hnext,hA]⟩,by omega,?_⟩
   exact .oA [(4096,some 4096),(4100,some 4100)] []
 ·have hi2:i = q.dims.length:=by omega
  subst hi2
  rw [← hD] at hi
  rw [if_neg (by rw [hi.2];simp)] at hT
  have hk:=zk s q.meas
  refine C2.im (fun _=>hk) (fun _=>rfl) (by rfl) ?_
  have hki:=qI8 (s:=s) (c:=q.meas) (k:=3) (by decide)
  simp only [tZ,↓un_u,simprocAttr,tD,bne_iff_ne,bne_eq_false_iff_eq]
  refine ⟨fun h5=>?_,fun h5=>?_⟩
  ·rw [if_pos (by grind)] at hT
   rw [hT]
   exact .oA [] []
  rw [if_neg (by grind)] at hT
  refine C2.im (fun _=>Qs q.event) (fun _=>rfl) (by rfl) ?_
  simp only [tZ,↓un_u,simprocAttr,tD,gt_iff_lt,Bool.not_eq_true',Bool.not_eq_false']
  refine ⟨fun h6=>?_,fun h6=>?_⟩
  ·rw [if_pos (by grind)] at hT
   rw [hT]
   exact .oA [] []
  ·rw [if_neg (by grind)] at hT
   rw [hT]
   exact .oA [] []
def modE (s:Sch) (q:Qst):Int:=if isB s q.meas 3 = false then 7 else if QA s q.meas q.terms≠0 then QA s q.meas q.terms else if 0 < q.dims.length∨Yk q.event cnd0 = false then 11 else 0
theorem Wn (s:Sch) (q:Qst):Spc Tryz.prog kz [schT s,qstT q] [] (vI (modE s q)) []:=by
 have hT:modE s q = if isB s q.meas 3 = false then 7 else if QA s q.meas q.terms≠0 then QA s q.meas q.terms else if 0 < q.dims.length∨Yk q.event cnd0 = false then 11 else 0:=rfl
 generalize modE s q = E at hT ⊢
 have hki:=qI8 (s:=s) (c:=q.meas) (k:=3) (by decide)
 refine qd Kp mixm (by simp) fun e _ hst=>qk ?_
 unfold ka
 refine sW ?_
 refine C1.im (zk s q.meas) (by rfl) (by rfl) ?_
 simp only [tZ,↓un_u,simprocAttr,tD,bne_iff_ne,bne_eq_false_iff_eq]
 refine ⟨fun h=>?_,fun h=>?_⟩
 ·rw [if_pos (hki.2 h)] at hT
  rw [hT]
  exact .oA [] []
 rw [if_neg (fun k=>hki.1 k h)] at hT
 refine ⟨fun h2=>?_,fun h2=>?_⟩
 ·have:QA s q.meas q.terms = 1:=by rw [QA,if_pos (by omega)]
  rw [this,if_pos (by simp)] at hT
  rw [hT]
  exact .oA [] []
 have hD:QA s q.meas q.terms = zF (qM7 s q.meas q.terms) q.terms.length:=by rw [QA,if_neg (by omega)]
 have hTD:QA s q.meas q.terms≠0→E = QA s q.meas q.terms:=fun h=>by rw [hT,if_pos h]
 refine qw mixm (α:=Nat) [27] (fun i=>i≤q.terms.length∧(zF (qM7 s q.meas q.terms) i = 0)) (fun i=>[(27,vI i)]) (fun i=>[(4096,.arr 2 [schT s] false),(4100,.arr 17 [qstT q] false)]) (fun i=>q.terms.length - i) 0 ⟨by omega,?_⟩ ?_ fun i hi=>?_
 ·rfl
 ·exact .oA [(4096,some 4096),(4100,some 4100)] []
 simp only [tZ,↓un_u,simprocAttr,decide_eq_true_eq,decide_eq_false_iff_not]
 refine ⟨fun h=>?_,fun h=>?_⟩
 ·have hi2:i < q.terms.length:=by omega
  have hpi:q.terms.getD i 0 = q.terms[i]:=qr hi2
  have hstep:=Ka hi.2 hi2
  have hnext:=wV hi.2
  have hA:qM7 s q.meas q.terms i = if isB s q.terms[i] 3 = false then 7 else if q.terms[i] = q.meas∨(q.terms.take i).contains q.terms[i] = true then 10 else 0:=by rw [qM7,hpi]
  rw [← hD] at hstep
  have hbad:qM7 s q.meas q.terms i≠0→E = qM7 s q.meas q.terms i:=fun h=>by rw [hTD (by rw [hstep h];exact h),hstep h]
  have hi2:i < q.terms.length:=by omega
  have hwi:=qo (i:=i) (by omega)
  simp only [tZ,↓un_u,simprocAttr,Int.toNat_natCast,qe hi2,hwi]
  refine ⟨by omega,?_⟩
  refine C1.im (zk s q.terms[i]) (by rfl) (by rfl) ?_
  have hki:=qI8 (s:=s) (c:=q.terms[i]) (k:=3) (by decide)
  simp only [tZ,↓un_u,simprocAttr,bne_iff_ne,bne_eq_false_iff_eq]
  refine ⟨fun h4=>?_,fun h4=>?_⟩
  ·rw [if_pos (hki.2 h4)] at hA
   rw [hbad (by rw [hA];simp),hA]
   exact .oA [] []
  rw [if_neg (fun h=>hki.1 h h4)] at hA
  have hCF:=yh (q.terms.take i) q.terms[i] (by rw [List.length_take];omega)
  refine ⟨fun _=>by omega,?_⟩
  rw [qj7,qF9]
  refine C2.im (fun _=>hCF) (fun _=>rfl) (by rfl) ?_
  simp only [tZ,↓un_u,simprocAttr,hwi,tD,beq_iff_eq,beq_eq_false_iff_ne]
  refine ⟨fun h5=>?_,fun h5=>?_⟩
  ·rw [if_pos h5] at hA
   rw [hbad (by rw [hA];simp),hA]
   exact .oA [] []
  ·rw [if_neg (by grind)] at hA
   refine ⟨i + 1,⟨by omega,by rw [hnext,hA]⟩,by omega,?_⟩
   exact .oA [(4096,some 4096),(4100,some 4100)] []
 ·have hi2:i = q.terms.length:=by omega
  subst hi2
  rw [← hD] at hi
  rw [if_neg (by rw [hi.2];simp)] at hT
  refine C2.im (fun _=>Qs q.event) (fun _=>rfl) (by rfl) ?_
  simp only [tZ,↓un_u,simprocAttr,tD,gt_iff_lt,Bool.not_eq_true',Bool.not_eq_false']
  refine ⟨fun h6=>?_,fun h6=>?_⟩
  ·rw [if_pos (by grind)] at hT
   rw [hT]
   exact .oA [] []
  ·rw [if_neg (by grind)] at hT
   rw [hT]
   exact .oA [] []
def curE (s:Sch) (q:Qst):Int:=if isB s q.meas 3 = false then 7 else if (qh s q.meas.toNat).low < 0 then 2 else if chkC s q.event≠0 then chkC s q.event else if 0 < q.dims.length∨0 < q.terms.length then 11 else 0
theorem Wo (s:Sch) (hs:Jc s) (q:Qst):Spc Tryz.prog kA [schT s,qstT q] [] (vI (curE s q)) []:=by
 have hki:=qI8 (s:=s) (c:=q.meas) (k:=3) (by decide)
 refine qd Kr mixm (by simp) fun e _ hst=>qk ?_
 unfold ke
 refine sW ?_
 refine C1.im (zk s q.meas) (by rfl) (by rfl) ?_
 simp only [tZ,↓un_u,simprocAttr,tD,bne_iff_ne,bne_eq_false_iff_eq]
 refine ⟨fun h=>?_,fun h=>?_⟩
 ·rw [curE,if_pos (hki.2 h)]
  exact .oA [] []
 rw [curE,if_neg (fun k=>hki.1 k h)]
 obtain ⟨b1,b2,b3⟩:=Qn.1 ((zN3 (by decide)).2 h)
 have hil:q.meas.toNat < s.cols.length:=by omega
 rw [qh,qr hil]
 simp only [tZ,↓un_u,simprocAttr,qe hil,tD]
 refine ⟨by omega,fun h4=>?_,fun h4=>?_⟩
 ·rw [if_pos h4]
  exact .oA [] []
 rw [if_neg h4]
 refine C1.im (jS s hs q.event) (by rfl) (by rfl) ?_
 simp only [tZ,↓un_u,simprocAttr,bne_iff_ne,bne_eq_false_iff_eq]
 refine ⟨fun h5=>?_,fun h5=>?_⟩
 ·rw [if_pos h5]
  exact .oA [] []
 rw [if_neg (by rw [h5];simp)]
 simp only [tZ,↓un_u,simprocAttr,tD,gt_iff_lt]
 refine ⟨fun h6=>?_,fun h6=>?_⟩
 ·rw [if_pos (by omega)]
  exact .oA [] []
 ·rw [if_neg (by omega)]
  exact .oA [] []
theorem wy (s:Sch) (hs:Jc s) (q:Qst):Spc Tryz.prog zD [schT s,qstT q] [] (vI (qstE s q)) []:=by
 refine qd ZB mixm (by simp) fun e _ hst=>qk ?_
 unfold jo
 refine sW ?_
 refine C1.im (js s hs.2.1 hs.1) (by rfl) (by rfl) ?_
 simp only [tZ,↓un_u,simprocAttr,bne_iff_ne,bne_eq_false_iff_eq]
 refine ⟨fun h=>?_,fun h=>?_⟩
 ·rw [qstE,if_pos h]
  exact .oA [] []
 rw [qstE,if_neg (by rw [h];simp)]
 refine C1.im (kH q.name) (by rfl) (by rfl) ?_
 simp only [tZ,↓un_u,simprocAttr,tD,Bool.not_eq_true',Bool.not_eq_false']
 refine ⟨fun h2=>?_,fun h2=>?_⟩
 ·rw [if_pos h2]
  exact .oA [] []
 rw [if_neg (by rw [h2];simp)]
 refine ⟨fun h3=>?_,fun h3=>?_⟩
 ·rw [if_pos (by omega)]
  exact .oA [] []
 rw [if_neg (by omega)]
 refine C1.im (jS s hs q.filt) (by rfl) (by rfl) ?_
 simp only [tZ,↓un_u,simprocAttr,bne_iff_ne,bne_eq_false_iff_eq,beq_iff_eq,beq_eq_false_iff_ne]
 refine ⟨fun h4=>?_,fun h4=>?_⟩
 ·rw [if_pos h4]
  exact .oA [] []
 rw [if_neg (by rw [h4];simp)]
 refine ⟨fun h5=>?_,fun h5=>⟨fun h6=>?_,fun h6=>?_⟩⟩
 ·refine C1.im (Wm s hs q) (by rfl) (by rfl) ?_
  rw [show (if Za s q≠0 then Za s q else if (q.kind≠1∧0 < q.dims.length)∨(q.kind≠2∧0 < q.terms.length)∨(q.kind≠3∧Yk q.event cnd0 = false) then 11 else 0) = tabE s q by
   rw [Za,if_pos h5,tabE]
   grind]
  refine sW ?_
  exact .oA [] []
 ·refine C1.im (Wn s q) (by rfl) (by rfl) ?_
  rw [show (if Za s q≠0 then Za s q else if (q.kind≠1∧0 < q.dims.length)∨(q.kind≠2∧0 < q.terms.length)∨(q.kind≠3∧Yk q.event cnd0 = false) then 11 else 0) = modE s q by
   rw [Za,if_neg h5,if_pos h6,modE]
   grind]
  refine sW ?_
  exact .oA [] []
 ·refine C1.im (Wo s hs q) (by rfl) (by rfl) ?_
  rw [show (if Za s q≠0 then Za s q else if (q.kind≠1∧0 < q.dims.length)∨(q.kind≠2∧0 < q.terms.length)∨(q.kind≠3∧Yk q.event cnd0 = false) then 11 else 0) = curE s q by
   rw [Za,if_neg h5,if_neg h6,curE]
   grind]
  refine sW ?_
  exact .oA [] []
end Go.Proofs
namespace Go.Proofs
open Go Go.TL
set_option maxRecDepth 4000
set_option maxHeartbeats 8000000
def usB (q:Qst) (k:Int):Bool:=decide (k > 0) && zM3 q k
theorem ZS (q:Qst) (k:Int) (ht:q.terms.length < 4611686018427387904):Spc Tryz.prog ko [qstT q,vI k] [] (vB (usB q k)) []:=by
 refine qd YM mixm (by simp) fun e _ hst=>qk ?_
 unfold wK
 refine sW ?_
 refine C2.im (fun _=>yh q.terms k ht) (fun _=>rfl) (by rfl) ?_
 refine sW ?_
 rw [show (decide (k > 0) && ((q.meas == k) || q.terms.contains k)) = usB q k from rfl]
 exact .oA [] []
def cnsL (q:Qst):List Cnd:=if q.kind = 3 then [q.filt,q.event] else [q.filt]
theorem Zd (q:Qst):Spc Tryz.prog jP [qstT q] [] (vCs (cnsL q)) []:=by
 refine qd WU mixm (by simp) fun e _ hst=>qk ?_
 unfold wh
 simp only [tZ,↓un_u,simprocAttr,beq_iff_eq,beq_eq_false_iff_ne]
 refine ⟨fun h=>?_,fun h=>?_⟩
 ·rw [cnsL,if_pos h]
  show ZT [] _ _ (.sl 6 [cndT q.filt,cndT q.event]) []
  rw [wU,wU]
  exact .oA [] [12304]
 ·rw [cnsL,if_neg h]
  show ZT [] _ _ (.sl 6 [cndT q.filt]) []
  rw [wU]
  exact .oA [] [16392]
def zs4 (s:Sch) (q:Qst) (k a b:Int):Bool:=(usB q k && (a != b)) || (q.dims.any fun d=>(d.col == k) && (qG s k d.lev a != qG s k d.lev b)) || ((cnsL q).any fun c=>(atsC c).any fun x=>(x.col == k) && (kg s x a != kg s x b))
end Go.Proofs
namespace Go.Proofs
open Go Go.TL
set_option maxRecDepth 4000
set_option maxHeartbeats 8000000
def mxl:List Pk→Int→Int
 | [],_=>0
 | p :: r,k=>if p.col = k then max p.lev (mxl r k) else mxl r k
theorem ZL:∀ (l:List Pk) (k:Int),0≤mxl l k
 | [],_=>Int.le_refl _
 | p :: r,k=>by
   have:=ZL r k
   rw [mxl]
   split <;> omega
theorem qy0:∀ (a b:List Pk) (k:Int),mxl (a ++ b) k = max (mxl a k) (mxl b k)
 | [],b,k=>by
   have:=ZL b k
   rw [List.nil_append,mxl];omega
 | p :: r,b,k=>by
   have:=qy0 r b k
   rw [List.cons_append,mxl,mxl,this]
   split <;> omega
theorem zB7 (l:List Pk) (p:Pk) (k:Int):mxl (l ++ [p]) k = if p.col = k then max (mxl l k) p.lev else mxl l k:=by
 have:=ZL l k
 rw [qy0,mxl,mxl]
 split <;> omega
theorem ZM:∀ {l:List Pk} {k:Int},(∀ p∈l,p.col≠k)→mxl l k = 0
 | [],_,_=>rfl
 | p :: r,k,h=>by
   rw [mxl,if_neg (h p (by simp)),ZM fun x hx=>h x (List.mem_cons_of_mem _ hx)]
theorem qg2 {f:Nat→Int} (hf:∀ k,0≤f k):∀ {n:Nat} (k:Nat),mxl (canF f n) k = if k < n then f k else 0
 | 0,k=>by rw [if_neg (by omega)];rfl
 | n + 1,k=>by
   have ih:=qg2 hf (n:=n) k
   have hk:=hf k
   have hn:=hf n
   rw [canF,qy0,ih]
   by_cases e:n = k
   ·subst e
    rw [if_neg (show ¬ n < n by omega),if_pos (show n < n + 1 by omega)]
    split
    ·have:mxl [(⟨(n:Nat),f n⟩:Pk)] n = max (f n) 0:=by rw [mxl,if_pos rfl];rfl
     rw [this];omega
    ·rw [mxl];omega
   ·have h0:mxl (if 0 < f n then [(⟨n,f n⟩:Pk)] else []) k = 0:=ZM fun p hp=>by
     split at hp
     ·rw [List.mem_singleton.1 hp];dsimp only;omega
     ·simp at hp
    rw [h0]
    by_cases h:k < n
    ·rw [if_pos h,if_pos (by omega)];omega
    ·rw [if_neg h,if_neg (by omega)];omega
theorem qa8 {n:Nat}:∀ (l:List Pk) {f:Nat→Int},(∀ k,0≤f k)→(∀ p∈l,0≤p.col∧p.col < n)→QM (canF f n) l = canF (fun k=>max (f k) (mxl l k)) n
 | [],f,hf,_=>by
   show canF f n = _
   exact Zc fun k _=>by have:=hf k;rw [mxl];omega
 | p :: r,f,hf,h=>by
   obtain ⟨h1,h2⟩:=h p (by simp)
   obtain ⟨c,hc⟩:=Int.eq_ofNat_of_zero_le h1
   have e:QM (canF f n) (p :: r) = QM (Kw (canF f n) p.col p.lev) r:=rfl
   rw [e,hc,qt9 hf (by omega),qa8 r (fun k=>by have:=hf k;unfold upd;split <;> omega) fun x hx=>h x (List.mem_cons_of_mem _ hx)]
   refine Zc fun k _=>?_
   have:=hf k
   have h3:=ZL r k
   unfold upd
   rw [mxl,hc]
   by_cases e:k = c
   ·subst e
    rw [if_pos rfl,if_pos rfl];omega
   ·rw [if_neg e,if_neg (by omega)]
theorem zb0 (n:Nat):canF (fun _=>0) n = []:=qn0 fun _ _=>Int.le_refl _
theorem qI9 {n:Nat} {l:List Pk} (h:∀ p∈l,0≤p.col∧p.col < n):QM [] l = canF (fun k=>mxl l k) n:=by
 rw [← zb0 n,qa8 l (fun _=>Int.le_refl _) h]
 exact Zc fun k _=>by have:=ZL l k;omega
theorem Yv (a l m:List Pk):QM a (l ++ m) = QM (QM a l) m:=List.foldl_append
theorem qJ0 {α:Type} (f:α→Pk) (m:List α):∀ l,QM l (m.map f) = m.foldl (fun l x=>Kw l (f x).col (f x).lev) l:=by
 induction m with
 | nil=>intro l;rfl
 | cons x r ih=>intro l;exact ih _
def atP (s:Sch) (c:Cnd):List Pk:=(atsC c).map fun a=>⟨a.col,decN s a⟩
theorem qN1 {s:Sch} {c:Cnd} (h:chkC s c = 0):jq s c = QM [] (atP s c):=by
 rw [jq,if_neg (by rw [h];simp),atP,qJ0]
theorem Kd {s:Sch} {c:Cnd} (h:chkC s c = 0):jq s c = canF (fun k=>mxl (atP s c) k) s.cols.length∧∀ p∈atP s c,1≤p.col∧p.col < s.cols.length:=by
 obtain ⟨hE,k2,k3,k4⟩:=qa3 h
 have hb:∀ p∈atP s c,1≤p.col∧p.col < s.cols.length:=fun p hp=>by
  obtain ⟨a,ha,rfl⟩:=List.mem_map.1 hp
  obtain ⟨hnd,hia⟩:=qW5 c k4 a ha
  obtain ⟨n1,n2,n3⟩:=qm3 hE hnd hia
  obtain ⟨_,c1,c2,_⟩:=ZF (s:=s) (c:=a.col) (by omega)
  exact ⟨c1,c2⟩
 refine ⟨?_,hb⟩
 rw [qN1 h]
 exact qI9 fun p hp=>by have:=hb p hp;omega
theorem zB8 {s:Sch} {c:Cnd} (h:chkC s c = 0):∀ p∈jq s c,1≤p.col∧p.col < s.cols.length:=fun p hp=>by
 obtain ⟨h1,h2⟩:=Kd h
 rw [h1,yO] at hp
 obtain ⟨k,k1,k2,rfl⟩:=hp
 refine ⟨?_,by dsimp only;omega⟩
 dsimp only
 by_cases e:k = 0
 ·subst e
  rw [ZM fun q hq=>by have:=h2 q hq;omega] at k2
  omega
 ·omega
theorem zs5 {s:Sch} {c:Cnd} (h:chkC s c = 0) (k:Nat):mxl (jq s c) k = mxl (atP s c) k:=by
 obtain ⟨h1,h2⟩:=Kd h
 rw [h1,qg2 fun k=>ZL _ _]
 split
 ·rfl
 ·exact (ZM fun q hq=>by have:=h2 q hq;omega).symm
def dmP (s:Sch) (q:Qst):List Pk:=q.dims.map fun d=>⟨d.col,wt s d.col d.lev⟩
def usP (s:Sch) (q:Qst) (n:Nat):List Pk:=((List.range n).filter fun k:Nat=>usB q k).map fun k:Nat=>⟨k,wt s k (finI s k)⟩
theorem qy1 (s:Sch) (q:Qst) (n:Nat):usP s q (n + 1) = usP s q n ++ if usB q n = true then [⟨n,wt s n (finI s n)⟩] else []:=by
 rw [usP,List.range_succ,List.filter_append,List.map_append,← usP]
 congr 1
 by_cases h:usB q n = true
 ·rw [if_pos h,List.filter_cons_of_pos (p:=fun k:Nat=>usB q k) h];rfl
 ·rw [if_neg h,List.filter_cons_of_neg (p:=fun k:Nat=>usB q k) h];rfl
theorem qX2 (s:Sch) (q:Qst) (l:List Pk):∀ n:Nat,(List.range n).foldl (qc4 s q) l = QM l (usP s q (n + 1))
 | 0=>by
   show l = _
   have h0:usB q (0:Nat) = false:=by simp [usB]
   rw [qy1,h0,if_neg (by simp)];rfl
 | n + 1=>by
   rw [List.range_succ,List.foldl_append,qX2 s q l n,qy1 _ _ (n + 1),Yv]
   show qc4 s q _ n = _
   have h:usB q ((n + 1:Nat):Int) = zM3 q ((n:Int) + 1):=by
    unfold usB
    rw [decide_eq_true (by omega),Bool.true_and];rfl
   rw [qc4,h]
   split <;> rfl
def evP (s:Sch) (q:Qst):List Pk:=if q.kind = 3 then jq s q.event else []
theorem qN2 {s:Sch} {q:Qst} (h:qstE s q = 0):kI s q = QM (jq s q.filt) (evP s q ++ dmP s q ++ usP s q s.cols.length):=by
 have hq:=Wk h
 have hnc:=(zq hq.sch).nc
 rw [kI,if_neg (by rw [h];simp),zM4,qX2,show s.cols.length - 1 + 1 = s.cols.length by omega,Yv,Yv,dmP,qJ0,evP]
 congr 2
 split <;> rfl
end Go.Proofs
namespace Go.Proofs
open Go Go.TL
set_option maxRecDepth 4000
set_option maxHeartbeats 8000000
theorem qf1 (s:Sch) (hok:SchOk s) (q:Qst) (hd:q.dims.length≤3) (ht:q.terms.length≤3) (hc:∀ c∈cnsL q,chkC s c = 0) (k a b:Int):Spc Tryz.prog yl [schT s,qstT q,vI k,vI a,vI b] [] (vB (zs4 s q k a b)) []:=by
 have hs:=hok.sm
 have hT:zs4 s q k a b = ((usB q k && (a != b)) || (q.dims.any fun d=>(d.col == k) && (qG s k d.lev a != qG s k d.lev b)) || ((cnsL q).any fun c=>(atsC c).any fun x=>(x.col == k) && (kg s x a != kg s x b))):=rfl
 have hcl:(cnsL q).length≤2:=by unfold cnsL;split <;> simp
 rw [hT]
 refine qd YO mixm (by simp) fun e _ hst=>qk ?_
 unfold wL
 refine sW ?_
 refine C1.im (ZS q k (by omega)) (by rfl) (by rfl) ?_
 refine sW ?_
 generalize (usB q k && (a != b)) = U
 refine ⟨fun h=>?_,fun h=>?_⟩
 ·rw [h]
  exact .oA [] []
 rw [h,Bool.false_or]
 refine qw mixm (α:=Nat) [28] (fun i=>i≤q.dims.length∧((q.dims.take i).any fun d=>(d.col == k) && (qG s k d.lev a != qG s k d.lev b)) = false) (fun i=>[(28,vI i)]) (fun i=>[(4096,.arr 2 [schT s] false),(4100,.arr 17 [qstT q] false)]) (fun i=>q.dims.length - i) 0 ⟨by omega,rfl⟩ ?_ fun i hi=>?_
 ·exact .oA [(4096,some 4096),(4100,some 4100)] []
 refine sD ?_
 refine ⟨fun h3=>?_,fun h3=>?_⟩
 ·have hi2:i < q.dims.length:=by omega
  have hwi:=qo (i:=i) (by omega)
  simp only [tZ,↓un_u,simprocAttr,Int.toNat_natCast,qe hi2]
  refine ⟨by omega,?_⟩
  have hC:=fun v=>JM s hs k q.dims[i].lev v
  refine C2.im (fun _=>hC a) (fun _=>rfl) (by rfl) ?_
  refine sW ?_
  refine C2.im (fun _=>hC b) (fun _=>rfl) (by rfl) ?_
  simp only [tZ,↓un_u,simprocAttr,hwi]
  repeat (first | refine ⟨by omega,?_⟩ | refine ⟨by kernel_rfl,?_⟩)
  refine ⟨fun h4=>?_,fun h4=>?_⟩
  ·rw [WF hi2 h4,Bool.true_or]
   exact .oA [] []
  ·refine ⟨i + 1,⟨by omega,wY hi2 hi.2 h4⟩,by omega,?_⟩
   exact .oA [(4096,some 4096),(4100,some 4100)] []
 ·have hil:i = q.dims.length:=by omega
  subst hil
  have hi2:=hi.2
  rw [List.take_length] at hi2
  rw [hi2,Bool.false_or]
  refine C1.im (Zd q) (by rfl) (by rfl) ?_
  generalize cnsL q = L at hc hcl ⊢
  refine sW ?_
  refine qw mixm (α:=Nat) [55] (fun i=>i≤L.length∧((L.take i).any fun c=>(atsC c).any fun x=>(x.col == k) && (kg s x a != kg s x b)) = false) (fun i=>[(55,vI i)]) (fun i=>[(4096,.arr 2 [schT s] false)]) (fun i=>L.length - i) 0 ⟨by omega,rfl⟩ ?_ fun i hi=>?_
  ·exact .oA [(4096,some 4096)] []
  refine sD ?_
  refine ⟨fun h4=>?_,fun h4=>?_⟩
  ·have hi2:i < L.length:=by omega
   have hwi:=qo (i:=i) (by omega)
   obtain ⟨_,k2,_,k4⟩:=qa3 (hc _ (List.getElem_mem hi2))
   have hal:=qx1 L[i] 41 (by omega) k2
   have hao:=qW5 L[i] k4
   have hhit:(((atsC L[i]).any fun x=>(x.col == k) && (kg s x a != kg s x b)) = true)→(L.any fun c=>(atsC c).any fun x=>(x.col == k) && (kg s x a != kg s x b)) = true:=fun h=>WF hi2 h
   have hgo:(((atsC L[i]).any fun x=>(x.col == k) && (kg s x a != kg s x b)) = false)→((L.take (i + 1)).any fun c=>(atsC c).any fun x=>(x.col == k) && (kg s x a != kg s x b)) = false:=fun h=>wY hi2 hi.2 h
   simp only [tZ,↓un_u,simprocAttr,Int.toNat_natCast,qe hi2,wU]
   refine ⟨by omega,?_⟩
   refine C1.im (Zb L[i] 41 (by omega) (by omega) k2) (by rfl) (by rfl) ?_
   generalize atsC L[i] = A at hal hao hhit hgo ⊢
   refine sW ?_
   refine qw mixm (α:=Nat) [62] (fun j=>j≤A.length∧((A.take j).any fun x=>(x.col == k) && (kg s x a != kg s x b)) = false) (fun j=>[(62,vI j)]) (fun j=>[(4096,.arr 2 [schT s] false)]) (fun j=>A.length - j) 0 ⟨by omega,rfl⟩ ?_ fun j hj=>?_
   ·exact .oA [(4096,some 4096)] []
   refine sD ?_
   refine ⟨fun h5=>?_,fun h5=>?_⟩
   ·have hj2:j < A.length:=by omega
    have hwj:=qo (i:=j) (by omega)
    obtain ⟨hnd,ha⟩:=hao _ (List.getElem_mem hj2)
    have hAt:=ZQ s hok A[j] hnd ha
    simp only [tZ,↓un_u,simprocAttr,Int.toNat_natCast,qe hj2,wU]
    refine ⟨by omega,?_⟩
    refine C2.im (fun _=>hAt a) (fun _=>rfl) (by rfl) ?_
    refine sW ?_
    refine C2.im (fun _=>hAt b) (fun _=>rfl) (by rfl) ?_
    simp only [tZ,↓un_u,simprocAttr,hwj]
    repeat (first | refine ⟨by omega,?_⟩ | refine ⟨by kernel_rfl,?_⟩)
    refine ⟨fun h6=>?_,fun h6=>?_⟩
    ·rw [hhit (WF hj2 h6)]
     exact .oA [] []
    ·refine ⟨j + 1,⟨by omega,wY hj2 hj.2 h6⟩,by omega,?_⟩
     exact .oA [(4096,some 4096)] []
   ·have hjl:j = A.length:=by omega
    subst hjl
    have hj2:=hj.2
    rw [List.take_length] at hj2
    simp only [tZ,↓un_u,simprocAttr,hwi]
    refine ⟨i + 1,⟨by omega,hgo hj2⟩,by omega,?_⟩
    exact .oA [(4096,some 4096)] []
  ·have hil:i = L.length:=by omega
   subst hil
   have hi2:=hi.2
   rw [List.take_length] at hi2
   rw [hi2]
   exact .oA [] []
end Go.Proofs
namespace Go.Proofs
open Go Go.TL
set_option maxRecDepth 4000
set_option maxHeartbeats 8000000
def mxc:List Pk→Int
 | []=>0
 | p :: r=>max p.col (mxc r)
theorem zs6:∀ l:List Pk,0≤mxc l
 | []=>Int.le_refl _
 | p :: r=>by have:=zs6 r;rw [mxc];omega
theorem qX3:∀ (l:List Pk) (p:Pk),mxc (l ++ [p]) = max (mxc l) p.col
 | [],p=>by show max p.col 0 = max 0 p.col;omega
 | q :: r,p=>by rw [List.cons_append,mxc,mxc,qX3 r p];omega
theorem zI2 {n:Int} (hn:0≤n):∀ {l:List Pk},(∀ p∈l,p.col≤n)→mxc l≤n
 | [],_=>hn
 | p :: r,h=>by
   have h1:=h p (by simp)
   have h2:=zI2 hn (l:=r) fun q hq=>h q (List.mem_cons_of_mem _ hq)
   rw [mxc];omega
theorem zI3:∀ {l:List Pk} {p:Pk},p∈l→p.col≤mxc l
 | q :: r,p,h=>by
   rw [mxc]
   rcases List.mem_cons.1 h with e | h
   ·rw [e];omega
   ·have:=zI3 h;omega
theorem Ze (ls:List (List Pk)) (n:Nat) (h1:1≤n) (h2:n≤1000) (hls:ls.length≤1000) (hl:∀ l∈ls,l.length≤1000) (hb:∀ l∈ls,∀ p∈l,0≤p.col∧p.col < n) :
 Spc Tryz.prog jO [.sl 1 (ls.map vPs)] [] (vPs (canF (fun k=>mxl ls.flatten k) n)) []:=by
 refine qd WS mixm (by simp) fun e _ hst=>qk ?_
 unfold wg
 refine sW ?_
 refine qw mixm (α:=Nat×List (Int×Int)) [4,14] (fun y=>y.1≤ls.length∧∀ k,(TL.look TL.eqI k y.2).getD 0 = mxl (ls.take y.1).flatten k) (fun y=>[(4,vI (mxc (ls.take y.1).flatten)),(14,vI y.1)]) (fun y=>[(8192,.mp (.ii y.2))]) (fun y=>ls.length - y.1) (0,[]) ⟨by simp,fun k=>rfl⟩ ?_ fun y hy=>?_
 ·exact .oA [(8192,some 8192)] []
 obtain ⟨i,M⟩:=y
 obtain ⟨y1,y2⟩:=hy
 dsimp only at y1 y2
 refine sD ?_
 refine ⟨fun h=>?_,fun h=>?_⟩
 ·have hi:i < ls.length:=by omega
  have hwi:=qo (i:=i) (by omega)
  have hll:=hl _ (List.getElem_mem hi)
  have hbb:=hb _ (List.getElem_mem hi)
  have hfl:(ls.take (i + 1)).flatten = (ls.take i).flatten ++ ls[i]:=by rw [qS hi,List.flatten_append];simp
  generalize (ls.take i).flatten = A at y2 hfl ⊢
  simp only [tZ,↓un_u,simprocAttr,Int.toNat_natCast,qe hi]
  refine ⟨by omega,?_⟩
  generalize ls[i] = l at hll hbb hfl ⊢
  refine qw mixm (α:=Nat×List (Int×Int)) [4,20] (fun y=>y.1≤l.length∧∀ k,(TL.look TL.eqI k y.2).getD 0 = mxl (A ++ l.take y.1) k) (fun y=>[(4,vI (mxc (A ++ l.take y.1))),(20,vI y.1)]) (fun y=>[(8192,.mp (.ii y.2))]) (fun y=>l.length - y.1) (0,M) ⟨by simp,fun k=>by rw [List.take_zero,List.append_nil];exact y2 k⟩ ?_ fun y hy=>?_
  ·refine .of [(8192,some 8192)] [] rfl (by first | rfl | (rw [hst];rfl)) ?_ ?_
   all_goals (try simp only [tL,simprocAttr,List.map_append,List.map_cons,List.map_nil,List.cons_append,List.nil_append,List.take_zero,List.append_nil])
   all_goals (try (repeat' (first | exact zh | (apply zB;intro _;exact ⟨rfl,rfl⟩) | (apply qz;intro _;exact ⟨rfl,rfl⟩) | with_reducible apply qQ | with_reducible refine qD ⟨rfl,rfl⟩ ?_ | exact qR | with_reducible apply qJ | with_reducible refine qW ⟨rfl,rfl,?_⟩ ?_ | with_reducible apply And.intro | exact qK rfl | exact qK (by assumption) | (refine ⟨⟨?_,rfl,?_,rfl,?_⟩,trivial⟩ <;> first | (simp;done) | (apply qz;intro _;exact ⟨rfl,rfl⟩)) | trivial | rfl | (rw [qo (by omega)]) | omega)))
  obtain ⟨j,N⟩:=y
  obtain ⟨z1,z2⟩:=hy
  dsimp only at z1 z2
  refine sD ?_
  refine ⟨fun h5=>?_,fun h5=>?_⟩
  ·have hj:j < l.length:=by omega
   have hwj:=qo (i:=j) (by omega)
   have hts:A ++ l.take (j + 1) = A ++ l.take j ++ [l[j]]:=by rw [qS hj,List.append_assoc]
   have hnew:∀ k,(TL.look TL.eqI k (TL.asg TL.eqI l[j].col (max (mxl (A ++ l.take j) l[j].col) l[j].lev) N)).getD 0 = mxl (A ++ l.take (j + 1)) k:=fun k=>by
    rw [Ys,hts,zB7]
    by_cases e:k = l[j].col
    ·subst e
     rw [if_pos rfl,if_pos rfl];rfl
    ·rw [if_neg e,if_neg (fun h=>e h.symm)]
     exact z2 k
   have hx:=qX3 (A ++ l.take j) l[j]
   rw [← hts] at hx
   have hz:=z2 l[j].col
   simp only [tZ,↓un_u,simprocAttr,Int.toNat_natCast,qe hj,hwj,qW9,hz,← hx]
   refine ⟨by omega,by kernel_rfl,?_⟩
   refine ⟨(j + 1,_),⟨by dsimp only;omega,hnew⟩,by dsimp only;omega,?_⟩
   exact .oA [(8192,some 8192)] []
  ·have hjl:j = l.length:=by omega
   subst hjl
   rw [List.take_length,← hfl] at z2 ⊢
   simp only [tZ,↓un_u,simprocAttr,hwi]
   refine ⟨(i + 1,N),⟨by dsimp only;omega,z2⟩,by dsimp only;omega,?_⟩
   exact .oA [(8192,some 8192)] []
 ·have hil:i = ls.length:=by omega
  subst hil
  rw [List.take_length] at y2 ⊢
  have hbf:∀ p∈ls.flatten,0≤p.col∧p.col < n:=fun p hp=>by
   obtain ⟨l,hl,hpl⟩:=List.mem_flatten.1 hp
   exact hb l hl p hpl
  have hml:=zI2 (n:=n - 1) (by omega) (l:=ls.flatten) fun p hp=>by have:=hbf p hp;omega
  have hmp:=zs6 ls.flatten
  have hmore:canF (fun k=>mxl ls.flatten k) n = canF (fun k=>mxl ls.flatten k) ((mxc ls.flatten).toNat + 1):=by
   rw [show n = (mxc ls.flatten).toNat + 1 + (n - ((mxc ls.flatten).toNat + 1)) by omega,qI7]
   intro k hk _
   rw [ZM fun p hp=>by have:=zI3 hp;omega]
   exact Int.le_refl _
  rw [hmore]
  obtain ⟨c,hc⟩:=Int.eq_ofNat_of_zero_le hmp
  rw [hc,Int.toNat_natCast]
  have hwc:=qo (i:=c) (by omega)
  rw [hwc]
  generalize ls.flatten = A at y2 ⊢
  refine qw mixm (α:=Nat) [9,42] (fun k=>k≤c + 1) (fun k=>[(9,.asl 1 (canF (fun k=>mxl A k) k).length),(42,vI k)]) (fun k=>[(8192,.mp (.ii M)),(1,.arr 2 ((canF (fun k=>mxl A k) k).map pkT) false)]) (fun k=>c + 1 - k) 0 (by omega) ?_ fun k hk=>?_
  ·exact .oA [(8192,some 8192),(1,none)] []
  have hcl:=qx9 (fun k=>mxl A k) k
  have hcs:canF (fun k=>mxl A k) (k + 1) = canF (fun k=>mxl A k) k ++ (if 0 < mxl A k then [⟨(k:Nat),mxl A k⟩] else []):=by rw [canF]
  have hz:=y2 k
  refine sD ?_
  refine ⟨fun h5=>?_,fun h5=>?_⟩
  ·have hwk:=qo (i:=k) (by omega)
   simp only [tZ,↓un_u,simprocAttr,hz,hwk,gt_iff_lt,tD]
   refine ⟨fun h6=>?_,fun h6=>?_⟩
   ·rw [if_pos h6] at hcs
    refine ⟨by omega,k + 1,by omega,by omega,?_⟩
    rw [hcs,List.map_append,List.length_append]
    exact .oA [(8192,some 8192),(1,some 1)] []
   ·rw [if_neg h6,List.append_nil] at hcs
    refine ⟨k + 1,by omega,by omega,?_⟩
    rw [hcs]
    exact .oA [(8192,some 8192),(1,some 1)] []
  ·rw [show k = c + 1 by omega]
   exact .oA [] [1]
theorem qJ1 {s:Sch} {q:Qst} (hq:QstOk s q):∀ d∈q.dims,ZE s d = 0∧isB s d.col 2 = true:=fun d hd=>by
 by_cases h1:q.kind = 1
 ·have h2:=(hq.dims h1).1
  unfold Jd at h2
  split at h2
  ·cases h2
  obtain ⟨i,hi,rfl⟩:=List.getElem_of_mem hd
  have h3:=QZ h2 i hi
  have hp:pkAt q.dims i = q.dims[i]:=by rw [pkAt,qr hi]
  unfold dimE at h3
  rw [hp] at h3
  split at h3
  ·rename_i h4;exact absurd h3 h4
  rename_i h4
  split at h3
  ·cases h3
  rename_i h5
  exact ⟨Classical.byContradiction h4,by simpa using h5⟩
 ·rw [hq.d0 h1] at hd
  simp at hd
theorem qX4 {s:Sch} {q:Qst} (hq:QstOk s q):∀ c∈cnsL q,chkC s c = 0:=fun c hc=>by
 unfold cnsL at hc
 split at hc
 ·rename_i h
  rcases List.mem_cons.1 hc with e | hc
  ·rw [e];exact hq.filt
  ·rw [List.mem_singleton.1 hc];exact (hq.event h).2.2
 ·rw [List.mem_singleton.1 hc];exact hq.filt
theorem zs7 {s:Sch} {q:Qst} {n:Nat} {p:Pk}:p∈usP s q n↔∃ k:Nat,k < n∧usB q k = true∧p = ⟨k,wt s k (finI s k)⟩:=by
 unfold usP
 simp only [List.mem_map,List.mem_filter,List.mem_range]
 constructor
 ·rintro ⟨k,⟨h1,h2⟩,rfl⟩;exact ⟨k,h1,h2,rfl⟩
 ·rintro ⟨k,h1,h2,rfl⟩;exact ⟨k,⟨h1,h2⟩,rfl⟩
theorem zN4 (s:Sch) (q:Qst) (n:Nat):(usP s q n).length≤n:=by
 unfold usP
 rw [List.length_map]
 have:=List.length_filter_le (fun k:Nat=>usB q k) (List.range n)
 rw [List.length_range] at this
 exact this
def qp8 (s:Sch) (q:Qst):List Pk:=dmP s q ++ usP s q s.cols.length ++ (cnsL q).flatMap (jq s)
theorem qy2 {s:Sch} {q:Qst} (hq:QstOk s q):∀ p∈qp8 s q,1≤p.col∧p.col < s.cols.length:=fun p hp=>by
 unfold qp8 at hp
 rcases List.mem_append.1 hp with hp | hp
 ·rcases List.mem_append.1 hp with hp | hp
  ·obtain ⟨d,hd,rfl⟩:=List.mem_map.1 hp
   obtain ⟨_,h1,h2,_⟩:=qW6 (qJ1 hq d hd).1
   exact ⟨h1,h2⟩
  ·obtain ⟨k,h1,h2,rfl⟩:=zs7.1 hp
   unfold usB at h2
   rw [Bool.and_eq_true,decide_eq_true_eq] at h2
   exact ⟨by dsimp only;omega,by dsimp only;omega⟩
 ·obtain ⟨c,hc,hp⟩:=List.mem_flatMap.1 hp
  exact zB8 (qX4 hq c hc) p hp
theorem Zf {s:Sch} {q:Qst} (h:qstE s q = 0):kI s q = canF (fun k=>mxl (qp8 s q) k) s.cols.length:=by
 have hq:=Wk h
 have hb:=qy2 hq
 obtain ⟨n1,n2⟩:=Kd hq.filt
 rw [qN2 h,n1,qa8 _ (fun k=>ZL _ _) fun p hp=>?_]
 ·refine Zc fun k _=>?_
  rw [← zs5 hq.filt k]
  have e:(cnsL q).flatMap (jq s) = jq s q.filt ++ evP s q:=by
   unfold cnsL evP
   split <;> simp
  rw [qp8,e]
  simp only [qy0]
  omega
 ·have:p∈qp8 s q:=by
   unfold qp8
   have e:(cnsL q).flatMap (jq s) = jq s q.filt ++ evP s q:=by
    unfold cnsL evP
    split <;> simp
   rw [e]
   simp only [List.mem_append] at hp ⊢
   rcases hp with (h | h) | h
   ·exact .inr (.inr h)
   ·exact .inl (.inl h)
   ·exact .inl (.inr h)
  have:=hb p this
  omega
theorem Zg (s:Sch) (hs:Jc s) (q:Qst):Spc Tryz.prog jN [schT s,qstT q] [] (vPs (kI s q)) []:=by
 refine qi2 [15] WN mixm (by simp) fun e _ hst=>qk ?_
 unfold kY
 simp only [Kg,List.contains_cons,List.contains_nil,Nat.reduceBEq,Bool.or_false,Bool.or_true,Bool.true_or,Bool.false_or,cond_true,cond_false]
 refine sW ?_
 refine C1.im (wy s hs q) (by rfl) (by rfl) ?_
 simp only [tZ,↓un_u,simprocAttr,bne_iff_ne,bne_eq_false_iff_eq]
 refine ⟨fun h=>?_,fun h=>?_⟩
 ·rw [kI,if_pos h]
  exact .oA [] []
 have hq:=Wk h
 have hok:=zq hq.sch
 have hnc:=hok.nc
 have hnd:=hq.nd
 have hnt:=hq.nt
 have hck:=qX4 hq
 have hcl:(cnsL q).length≤2:=by unfold cnsL;split <;> simp
 have hdl:(dmP s q).length = q.dims.length:=List.length_map _
 have hbd:=qy2 hq
 refine qw mixm (α:=Nat) [5,19] (fun i=>i≤q.dims.length) (fun i=>[(5,.asl 1 ((dmP s q).take i).length),(19,vI i)]) (fun i=>[(4096,.arr 2 [schT s] false),(4100,.arr 17 [qstT q] false),(1,.arr 2 (((dmP s q).take i).map pkT) false)]) (fun i=>q.dims.length - i) 0 (by omega) ?_ fun i hi=>?_
 ·exact .oA [(4096,some 4096),(4100,some 4100),(1,none)] []
 refine sD ?_
 refine ⟨fun h3=>?_,fun h3=>?_⟩
 ·have hi2:i < q.dims.length:=by omega
  have hwi:=qo (i:=i) (by omega)
  have hts:(dmP s q).take (i + 1) = (dmP s q).take i ++ [⟨q.dims[i].col,wt s q.dims[i].col q.dims[i].lev⟩]:=by
   rw [qS (by omega)]
   simp only [dmP,List.getElem_map]
  have hLe:=KL s hs q.dims[i].col q.dims[i].lev
  have htl:((dmP s q).take i).length≤3:=by rw [List.length_take];omega
  simp only [tZ,↓un_u,simprocAttr,Int.toNat_natCast,qe hi2]
  refine ⟨by omega,?_⟩
  refine C1.im hLe (by rfl) (by rfl) ?_
  simp only [tZ,↓un_u,simprocAttr,hwi]
  refine ⟨by omega,by kernel_rfl,i + 1,by omega,by omega,?_⟩
  rw [hts,List.map_append,List.length_append]
  exact .oA [(4096,some 4096),(4100,some 4100),(1,some 1)] []
 ·have hil:i = q.dims.length:=by omega
  subst hil
  rw [← hdl,List.take_length]
  refine qw mixm (α:=Nat) [5,39] (fun i=>i≤s.cols.length) (fun i=>[(5,.asl 1 (dmP s q ++ usP s q i).length),(39,vI i)]) (fun i=>[(4096,.arr 2 [schT s] false),(4100,.arr 17 [qstT q] false),(1,.arr 2 ((dmP s q ++ usP s q i).map pkT) false)]) (fun i=>s.cols.length - i) 0 (by omega) ?_ fun i hi=>?_
  ·rw [show usP s q 0 = [] from rfl,List.append_nil]
   exact .oA [(4096,some 4096),(4100,some 4100),(1,some 1)] []
  have hul:=zN4 s q i
  have hus:=qy1 s q i
  have hoL:(dmP s q ++ usP s q i).length≤1000000:=by rw [List.length_append];omega
  refine sD ?_
  refine ⟨fun h3=>?_,fun h3=>?_⟩
  ·have hi2:i < s.cols.length:=by omega
   have hwi:=qo (i:=i) (by omega)
   refine C1.im (ZS q i (by omega)) (by rfl) (by rfl) ?_
   refine sW ?_
   refine ⟨fun h4=>?_,fun h4=>?_⟩
   ·rw [if_pos h4] at hus
    refine C1.im (wu s hs i) (by rfl) (by rfl) ?_
    refine sW ?_
    refine C1.im (KL s hs i (finI s i)) (by rfl) (by rfl) ?_
    simp only [tZ,↓un_u,simprocAttr,hwi]
    refine ⟨by omega,by kernel_rfl,i + 1,by omega,by omega,?_⟩
    rw [hus,← List.append_assoc,List.map_append,List.length_append (bs:=[_])]
    exact .oA [(4096,some 4096),(4100,some 4100),(1,some 1)] []
   ·rw [if_neg (by rw [h4];simp),List.append_nil] at hus
    simp only [tZ,↓un_u,simprocAttr,hwi]
    refine ⟨i + 1,by omega,by omega,?_⟩
    rw [hus]
    exact .oA [(4096,some 4096),(4100,some 4100),(1,some 1)] []
  ·have hil:i = s.cols.length:=by omega
   subst hil
   rw [Zf h]
   unfold qp8 at hbd ⊢
   have hll:(dmP s q ++ usP s q s.cols.length).length = (dmP s q).length + (usP s q s.cols.length).length:=List.length_append
   generalize dmP s q ++ usP s q s.cols.length = own at hoL hbd hll ⊢
   refine W_le [(2,.ptr 4096 1 0 0),(3,.ptr 4100 1 0 0),(5,vPs own)] [(4096,.arr 2 [schT s] false),(4100,.arr 17 [qstT q] false)] ?_ ?_
   ·exact .oA [(4096,some 4096),(4100,some 4100)] [1]
   refine sW ?_
   refine C1.im (Zd q) (by rfl) (by rfl) ?_
   generalize cnsL q = L at hck hcl hbd ⊢
   refine sW ?_
   refine qw mixm (α:=Nat) [9,62] (fun i=>i≤L.length) (fun i=>[(9,.asl 65540 (i + 1)),(62,vI i)]) (fun i=>[(4096,.arr 2 [schT s] false),(65540,.arr 1 (vPs own :: (L.take i).map fun c=>vPs (jq s c)) false)]) (fun i=>L.length - i) 0 (by omega) ?_ fun i hi=>?_
   ·exact .oA [(4096,some 4096),(65540,some 65540)] []
   have htl:(L.take i).length = i:=by rw [List.length_take];omega
   refine sD ?_
   refine ⟨fun h3=>?_,fun h3=>?_⟩
   ·have hi2:i < L.length:=by omega
    have hwi:=qo (i:=i) (by omega)
    have hN:=qa7 s hs L[i]
    simp only [tZ,↓un_u,simprocAttr,Int.toNat_natCast,qe hi2,wU]
    refine ⟨by omega,?_⟩
    refine C1.im hN (by rfl) (by rfl) ?_
    simp only [tZ,↓un_u,simprocAttr,hwi]
    refine ⟨by omega,i + 1,by omega,by omega,?_⟩
    rw [qS hi2,List.map_append]
    exact .oA [(4096,some 4096),(65540,some 65540)] []
   ·have hil:i = L.length:=by omega
    subst hil
    rw [List.take_length]
    have hfl:(own :: L.map (jq s)).flatten = own ++ L.flatMap (jq s):=by rw [List.flatten_cons,List.flatMap_def]
    have hbb:∀ l∈own :: L.map (jq s),∀ p∈l,0≤p.col∧p.col < s.cols.length:=fun l hl p hp=>by
     have:=hbd p (by rw [← hfl];exact List.mem_flatten.2 ⟨l,hl,hp⟩)
     omega
    have hbl:∀ l∈own :: L.map (jq s),l.length≤1000:=fun l hl=>by
     rcases List.mem_cons.1 hl with e | hl
     ·rw [e];omega
     ·obtain ⟨c,_,rfl⟩:=List.mem_map.1 hl
      have:=qm5 s c
      omega
    have hM:=Ze (own :: L.map (jq s)) s.cols.length (by omega) (by omega) (by rw [List.length_cons,List.length_map];omega) hbl hbb
    rw [hfl,List.map_cons,List.map_map] at hM
    refine C1.shut [65540] hM ?_ (by rfl) rfl ?_
    ·all_goals (try exact clA)
    refine sW ?_
    exact .oA [] []
end Go.Proofs
namespace Go.Proofs
open Go Go.TL
set_option maxRecDepth 4000
set_option maxHeartbeats 8000000
end Go.Proofs
namespace Go.Proofs
open Go Go.TL
set_option maxRecDepth 4000
set_option maxHeartbeats 8000000
end Go.Proofs
namespace Go.Proofs
open Go Go.TL
set_option maxRecDepth 4000
set_option maxHeartbeats 8000000
theorem CndOk.mono {s:Sch} {n m:Nat} {c:Cnd} (h:CndOk s n c) (hn:n≤m):CndOk s m c:=by
 have h1:=h.dep
 have h2:=h.siz
 have h3:2 ^ (n + 1)≤2 ^ (m + 1):=Nat.pow_le_pow_right (by omega) (by omega)
 exact ⟨h.ok,by omega,by omega⟩
end Go.Proofs
namespace Go.Proofs
open Go Go.TL
set_option maxRecDepth 4000
set_option maxHeartbeats 8000000
theorem zI4 {l:List Pk} {k F:Int} (hF:0≤F) (h:∀ p∈l,p.col = k→p.lev≤F):mxl l k≤F:=by
 induction l with
 | nil=>exact hF
 | cons p r ih=>
   have h1:=ih fun q hq=>h q (List.mem_cons_of_mem _ hq)
   rw [mxl]
   split
   ·rename_i e
    have:=h p (by simp) e
    omega
   ·exact h1
theorem qJ2 {s:Sch} {c lev:Int} (h:0≤lev) (h2:lev≤finI s c):wt s c lev≤lev∧0≤wt s c lev∧divB s c.toNat (wt s c lev).toNat lev.toNat = true∧∀ m:Nat,(m:Int) < wt s c lev→divB s c.toNat m lev.toNat = false:=by
 have h59:lev≤59∨schE s≠0:=by
  by_cases e:schE s = 0
  ·have:=Wi (c:=c) e;exact .inl (by omega)
  ·exact .inr e
 have hE:schE s = 0:=(ZF (s:=s) (c:=c) (by omega)).1
 have h59:=Wi (c:=c) hE
 rw [wt,if_neg (by rw [Bool.not_eq_false,KJ];omega)]
 obtain ⟨a,b,_,d⟩:=Wh (p:=fun n=>divB s c.toNat n lev.toNat) (N:=lev.toNat) (qW7 s _ _) 64 0 (by omega) (by omega)
 refine ⟨by omega,by omega,by rw [Int.toNat_natCast];exact a,fun m hm=>d m (by omega) (by omega)⟩
theorem qn1 {s:Sch} (hE:schE s = 0) {k:Nat} (h1:1≤k) (h2:k < s.cols.length):0≤finI s k:=by
 have hok:=zq hE
 have hkk:=zA (hok.cs k h2)
 have h3:=hkk.2.2.1 h1
 refine (zM7 hE (v:=k) ?_).2.2.1
 rcases (show (qh s k).kind = 2∨(qh s k).kind = 3 by omega) with h | h
 ·exact .inl (Qn.2 ⟨by omega,by omega,by rw [Int.toNat_natCast];exact h⟩)
 ·exact .inr (Qn.2 ⟨by omega,by omega,by rw [Int.toNat_natCast];exact h⟩)
theorem zN5 {s:Sch} {c:Cnd} (h:chkC s c = 0):∀ p∈atP s c,p.lev≤finI s p.col:=fun p hp=>by
 obtain ⟨hE,k2,k3,k4⟩:=qa3 h
 obtain ⟨a,ha,rfl⟩:=List.mem_map.1 hp
 obtain ⟨hnd,hia⟩:=qW5 c k4 a ha
 exact (qm3 hE hnd hia).1
theorem zs8 {s:Sch} {c:Cnd} (h:chkC s c = 0):∀ p∈jq s c,p.lev≤finI s p.col:=fun p hp=>by
 have hE:=(qa3 h).1
 obtain ⟨h1,h2⟩:=Kd h
 rw [h1,yO] at hp
 obtain ⟨k,k1,k2,rfl⟩:=hp
 have h0:1≤k:=by
  rcases Nat.eq_zero_or_pos k with e | e
  ·subst e
   rw [ZM fun q hq=>by have:=h2 q hq;omega] at k2
   omega
  ·exact e
 exact zI4 (qn1 hE h0 k1) fun p hp e=>by rw [← e];exact zN5 h p hp
theorem zs9 {s:Sch} {q:Qst} (hq:QstOk s q):∀ p∈qp8 s q,p.lev≤finI s p.col:=fun p hp=>by
 unfold qp8 at hp
 rcases List.mem_append.1 hp with hp | hp
 ·rcases List.mem_append.1 hp with hp | hp
  ·obtain ⟨d,hd,rfl⟩:=List.mem_map.1 hp
   obtain ⟨_,h1,h2,h3,h4⟩:=qW6 (qJ1 hq d hd).1
   have:=qJ2 h3 h4
   dsimp only;omega
  ·obtain ⟨k,h1,h2,rfl⟩:=zs7.1 hp
   unfold usB at h2
   rw [Bool.and_eq_true,decide_eq_true_eq] at h2
   have h3:=qn1 hq.sch (k:=k) (by omega) h1
   have:=qJ2 h3 (Int.le_refl _)
   dsimp only;omega
 ·obtain ⟨c,hc,hp⟩:=List.mem_flatMap.1 hp
  exact zs8 (qX4 hq c hc) p hp
end Go.Proofs
namespace Go.Proofs
open Go Go.TL
set_option maxRecDepth 4000
set_option maxHeartbeats 8000000
theorem qn2 {s:Sch} (hok:SchOk s) {i:Nat} (hi:i < s.cols.length) (h2:(qh s i).kind = 2) {v:Int}:jM s i v = true↔v∈qE s i:=by
 obtain ⟨_,d2⟩:=hok.cdl hi h2
 constructor
 ·intro h
  rw [jM,if_neg (by omega),if_pos h2,Bool.and_eq_true,KJ,beq_iff_eq] at h
  obtain ⟨⟨g1,g2⟩,g3⟩:=h
  obtain ⟨c,rfl⟩:=Int.eq_ofNat_of_zero_le g1
  rw [lvlC,if_neg (not_or.2 ⟨fun h=>h d2,by omega⟩),Int.toNat_natCast] at g3
  exact (yR hok hi h2).2 ⟨c,rfl,by omega,g3⟩
 ·intro h;exact QX h2 d2 h
structure MeasC (s:Sch) (i:Nat):Prop where
 kind:(qh s i).kind = 3
 fin:finI s i = (qh s i).widths.length
 wid:∀ l:Nat,1≤l→l≤(qh s i).widths.length→1≤zd (qh s i) l
 one:zd (qh s i) (qh s i).widths.length = 1
 lh : -1000000≤(qh s i).low∧(qh s i).low≤(qh s i).high∧(qh s i).high≤1000000
 nw:1≤(qh s i).widths.length
 dv:∀ {o l:Nat},1≤o→o < l→l≤(qh s i).widths.length→∃ k:Int,2≤k∧zd (qh s i) o = k * zd (qh s i) l
end Go.Proofs
namespace Go.Proofs
open Go Go.TL
set_option maxRecDepth 4000
set_option maxHeartbeats 8000000
end Go.Proofs
namespace Go.Proofs
open Go Go.TL
set_option maxRecDepth 4000
set_option maxHeartbeats 8000000
theorem zt0:∀ {l:List Pk} {p:Pk},p∈l→p.lev≤mxl l p.col
 | q :: r,p,h=>by
   rw [mxl]
   rcases List.mem_cons.1 h with e | h
   ·subst e;rw [if_pos rfl];omega
   ·have:=zt0 h
    split <;> omega
theorem qy3:∀ {l:List Pk} {k:Int},0 < mxl l k→∃ p∈l,p.col = k∧p.lev = mxl l k
 | [],k,h=>by rw [mxl] at h;omega
 | p :: r,k,h=>by
   rw [mxl] at h ⊢
   by_cases e:p.col = k
   ·rw [if_pos e] at h ⊢
    by_cases h2:mxl r k≤p.lev
    ·exact ⟨p,by simp,e,by omega⟩
    ·obtain ⟨x,h3,h4,h5⟩:=qy3 (l:=r) (k:=k) (by omega)
     exact ⟨x,List.mem_cons_of_mem _ h3,h4,by omega⟩
   ·rw [if_neg e] at h ⊢
    obtain ⟨x,h3,h4,h5⟩:=qy3 (l:=r) (k:=k) h
    exact ⟨x,List.mem_cons_of_mem _ h3,h4,h5⟩
end Go.Proofs
namespace Go.Proofs
open Go Go.TL
set_option maxRecDepth 4000
set_option maxHeartbeats 8000000
theorem JP (x y:Qst):Spc Tryz.prog zL [qstT x,.ip (qstT y).cells] [] (vB (eqB x.name y.name)) []:=by
 refine qd ZV mixm (by simp) fun e _ hst=>qk ?_
 unfold jw
 refine sW ?_
 rw [show (x.name.toList == y.name.toList) = eqB x.name y.name from rfl]
 exact .oA [] []
theorem Qt (p:Qst→Bool) (f:FuncId) (caps:List T) (hcap:imL caps = true) (l:List Qst) (hf:∀ y∈l,Spc Tryz.prog f (qstT y :: caps) [] (vB (p y)) []) (hl:l.length < 4611686018427387904) :
 Spc Tryz.prog zw [.sl 17 (l.map qstT),.clo f caps] [] (vI (idxI p l)) []:=by
 refine qd yJ mixm (by simp) fun e _ hst=>qk ?_
 unfold zo
 refine sW ?_
 refine qw mixm (α:=Nat) [8] (fun i=>i≤l.length∧((l.take i).any p = false)) (fun i=>[(8,vI i)]) (fun i=>[]) (fun i=>l.length - i) 0 ⟨by omega,?_⟩ ?_ fun i hi=>?_
 ·simp
 ·exact .oA [] []
 simp only [tZ,↓un_u,simprocAttr,decide_eq_true_eq,decide_eq_false_iff_not]
 refine ⟨fun h=>?_,fun h=>?_⟩
 ·have hi2:i < l.length:=by omega
  have hwi:=qo (i:=i) (by omega)
  simp only [tZ,↓un_u,simprocAttr,Int.toNat_natCast,qe hi2,hwi,KS]
  refine ⟨by omega,?_⟩
  refine C1.im (hf l[i] (List.getElem_mem hi2)) (Ju rfl hcap) rfl ?_
  refine sW ?_
  refine ⟨fun h3=>?_,fun h3=>⟨i + 1,⟨by omega,wY hi2 hi.2 h3⟩,by omega,?_⟩⟩
  ·rw [idxI,if_pos (WF hi2 h3),wA hi2 hi.2 h3]
   exact .imR rfl rfl
  ·exact .oA [] []
 ·have h2:i = l.length:=by omega
  have h3:=hi.2
  rw [h2,List.take_length] at h3
  rw [idxI,if_neg (by rw [h3];simp)]
  exact .imR rfl rfl
theorem yi (p:Qst→Bool) (f:FuncId) (caps:List T) (hcap:imL caps = true) (l:List Qst) (hf:∀ y∈l,Spc Tryz.prog f (qstT y :: caps) [] (vB (p y)) []) (hl:l.length < 4611686018427387904) :
 Spc Tryz.prog ze [.sl 17 (l.map qstT),.clo f caps] [] (vB (l.any p)) []:=by
 refine qd wJ mixm (by simp) fun e _ hst=>qk ?_
 unfold zb
 refine sW ?_
 refine C1.im (Qt p f caps hcap l hf hl) (WG rfl hcap) rfl ?_
 refine sW ?_
 rw [show decide (idxI p l≥0) = l.any p from KT p l]
 exact .imR rfl rfl
theorem Qu (s:Sch) (hs:Jc s) (d:Dcl):Spc Tryz.prog jh [schT s,dclT d] [] (vI (dclE s d)) []:=by
 refine qd Kj mixm (by simp) fun e _ hst=>qk ?_
 unfold jX
 refine sW ?_
 refine C1.im (js s hs.2.1 hs.1) (by rfl) (by rfl) ?_
 simp only [tZ,↓un_u,simprocAttr,bne_iff_ne,bne_eq_false_iff_eq]
 refine ⟨fun h=>?_,fun h=>?_⟩
 ·rw [dclE,if_pos h]
  exact .oA [] []
 rw [dclE,if_neg (by rw [h];simp)]
 refine C1.im (kH d.proj) (by rfl) (by rfl) ?_
 refine sW ?_
 refine C2.im (fun _=>kH d.src) (fun _=>rfl) (by rfl) ?_
 simp only [tZ,↓un_u,simprocAttr,tD,Bool.not_eq_true',Bool.not_eq_false']
 refine ⟨fun h2=>?_,fun h2=>?_⟩
 ·rw [if_pos h2]
  exact .oA [] []
 rw [if_neg (by rw [h2.1,h2.2];simp)]
 refine C1.im (jS s hs d.coh) (by rfl) (by rfl) ?_
 simp only [tZ,↓un_u,simprocAttr,bne_iff_ne,bne_eq_false_iff_eq]
 refine ⟨fun h3=>?_,fun h3=>?_⟩
 ·rw [if_pos h3]
  exact .oA [] []
 rw [if_neg (by rw [h3];simp)]
 simp only [tZ,↓un_u,simprocAttr,tD,gt_iff_lt,beq_iff_eq,beq_eq_false_iff_ne]
 refine ⟨fun h4=>?_,fun h4=>?_⟩
 ·have:smpE d.smp≠0:=by rw [smpE,if_pos (by omega)];simp
  rw [if_pos this]
  exact .oA [] []
 have h5:smpE d.smp = 0:=by rw [smpE,if_neg (by omega)]
 rw [if_neg (by rw [h5];simp)]
 refine ⟨fun h6=>?_,fun h6=>?_⟩
 ·rw [if_pos (by omega)]
  exact .oA [] []
 rw [if_neg (by omega)]
 generalize hE:zF (qsE s d.qs) d.qs.length = E
 refine qw mixm (α:=Nat) [80] (fun i=>i≤d.qs.length∧(zF (qsE s d.qs) i = 0)) (fun i=>[(80,vI i)]) (fun i=>[(4096,.arr 2 [schT s] false),(4100,.arr 12 [dclT d] false)]) (fun i=>d.qs.length - i) 0 ⟨by omega,?_⟩ ?_ fun i hi=>?_
 ·rfl
 ·exact .oA [(4096,some 4096),(4100,some 4100)] []
 simp only [tZ,↓un_u,simprocAttr,decide_eq_true_eq,decide_eq_false_iff_not]
 refine ⟨fun h=>?_,fun h=>?_⟩
 ·have hi2:i < d.qs.length:=by omega
  have hpi:qAt d.qs i = d.qs[i]:=by rw [qAt,qr hi2]
  have hstep:=Ka hi.2 hi2
  have hnext:=wV hi.2
  have hA:qsE s d.qs i = if qstE s d.qs[i]≠0 then qstE s d.qs[i] else if ((d.qs.take i).any fun x=>eqB x.name d.qs[i].name) = true then 10 else 0:=by rw [qsE,hpi]
  rw [hE] at hstep
  have hQ:=wy s hs d.qs[i]
  have hCF:=yi (fun x=>eqB x.name d.qs[i].name) zL [.ip (qstT d.qs[i]).cells] rfl (d.qs.take i) (fun x _=>JP x d.qs[i]) (by rw [List.length_take];omega)
  have hi2:i < d.qs.length:=by omega
  have hwi:=qo (i:=i) (by omega)
  simp only [tZ,↓un_u,simprocAttr,Int.toNat_natCast,qe hi2,hwi]
  refine ⟨by omega,?_⟩
  refine C1.im hQ (by rfl) (by rfl) ?_
  simp only [tZ,↓un_u,simprocAttr,bne_iff_ne,bne_eq_false_iff_eq]
  refine ⟨fun h7=>?_,fun h7=>?_⟩
  ·rw [if_pos h7] at hA
   rw [hstep (by rw [hA];exact h7),hA]
   exact .oA [] []
  rw [if_neg (by rw [h7];simp)] at hA
  refine ⟨by omega,?_⟩
  rw [qj7,qF9]
  refine C1.lend [69644] hCF ?_ (by rfl) (by rfl) ?_
  ·all_goals (try simp only [tL,simprocAttr,List.map_append,List.map_cons,List.map_nil,List.cons_append,List.nil_append])
   all_goals (try (repeat' (first | exact zh | (apply zB;intro _;exact ⟨rfl,rfl⟩) | (apply qz;intro _;exact ⟨rfl,rfl⟩) | with_reducible apply qQ | with_reducible refine qD ⟨rfl,rfl⟩ ?_ | exact qR | with_reducible apply qJ | with_reducible refine qW ⟨rfl,rfl,?_⟩ ?_ | with_reducible apply And.intro | exact qK rfl | exact qK (by assumption) | (refine ⟨⟨?_,rfl,?_,rfl,?_⟩,trivial⟩ <;> first | (simp;done) | (apply qz;intro _;exact ⟨rfl,rfl⟩)) | trivial | rfl | (rw [qo (by omega)]) | omega)))
   simp only [ltP]
   exact ⟨rfl,by decide,rfl,qD ⟨rfl,rfl⟩ qR⟩
  simp only [tZ,↓un_u,simprocAttr,hwi]
  refine ⟨fun h8=>?_,fun h8=>?_⟩
  ·rw [if_pos h8] at hA
   rw [hstep (by rw [hA];simp),hA]
   exact .oA [] []
  ·rw [if_neg (by rw [h8];simp)] at hA
   refine ⟨i + 1,⟨by omega,by rw [hnext,hA]⟩,by omega,?_⟩
   exact .oA [(4096,some 4096),(4100,some 4100)] []
 ·have hi2:i = d.qs.length:=by omega
  subst hi2
  rw [← hE,hi.2]
  exact .oA [] []
def zb1 (s:Sch) (qs:List Qst):List Pk:=qs.flatMap (kI s)
theorem qy4 {s:Sch} (q:Qst):∀ p∈kI s q,1≤p.col∧p.col < s.cols.length:=fun p hp=>by
 by_cases h:qstE s q = 0
 ·have hq:=Wk h
  rw [Zf h] at hp
  obtain ⟨k,k1,k2,rfl⟩:=yO.1 hp
  refine ⟨?_,by dsimp only;omega⟩
  dsimp only
  rcases Nat.eq_zero_or_pos k with e | e
  ·subst e
   rw [ZM fun q' hq'=>by have:=qy2 hq q' hq';omega] at k2
   omega
  ·omega
 ·rw [kI,if_pos h] at hp
  simp at hp
theorem Zh {s:Sch} {d:Dcl} (h:dclE s d = 0):jA s d = canF (fun k=>mxl (zb1 s d.qs) k) s.cols.length:=by
 rw [jA,if_neg (by rw [h];simp)]
 have key:∀ qs:List Qst,∀ l,qs.foldl (fun l q=>QM l (kI s q)) l = QM l (zb1 s qs):=by
  intro qs
  induction qs with
  | nil=>intro l;rfl
  | cons q r ih=>
    intro l
    rw [List.foldl_cons,ih,← Yv];rfl
 rw [key]
 refine qI9 fun p hp=>?_
 obtain ⟨q,hq,hp⟩:=List.mem_flatMap.1 hp
 have:=qy4 q p hp
 omega
theorem JQ (s:Sch) (hs:Jc s) (d:Dcl) (h:dclE s d = 0):Spc Tryz.prog kQ [schT s,dclT d] [] (vPs (jA s d)) []:=by
 obtain ⟨hE,_,_,_,_,hq1,hq2,_⟩:=ql9 h
 have hnc:=(zq hE).nc
 rw [Zh h,zb1,List.flatMap_def]
 have hbl:∀ l∈d.qs.map (kI s),l.length≤1000:=fun l hl=>by
  obtain ⟨q,_,rfl⟩:=List.mem_map.1 hl
  have:=qm6 s q
  omega
 have hbb:∀ l∈d.qs.map (kI s),∀ p∈l,0≤p.col∧p.col < s.cols.length:=fun l hl p hp=>by
  obtain ⟨q,_,rfl⟩:=List.mem_map.1 hl
  have:=qy4 q p hp
  omega
 have hM:=Ze (d.qs.map (kI s)) s.cols.length (by omega) (by omega) (by rw [List.length_map];omega) hbl hbb
 refine qd qd2 mixm (by simp) fun e _ hst=>qk ?_
 unfold yp
 refine sW ?_
 refine qw mixm (α:=Nat) [5,11] (fun i=>i≤d.qs.length) (fun i=>[(5,.asl 1 i),(11,vI i)]) (fun i=>[(4096,.arr 2 [schT s] false),(1,.arr 1 ((d.qs.take i).map fun q=>vPs (kI s q)) false)]) (fun i=>d.qs.length - i) 0 (by omega) ?_ fun i hi=>?_
 ·exact .oA [(4096,some 4096),(1,none)] []
 have htl:(d.qs.take i).length = i:=by rw [List.length_take];omega
 refine sD ?_
 refine ⟨fun h3=>?_,fun h3=>?_⟩
 ·have hi2:i < d.qs.length:=by omega
  have hwi:=qo (i:=i) (by omega)
  have hN:=Zg s hs d.qs[i]
  simp only [tZ,↓un_u,simprocAttr,Int.toNat_natCast,qe hi2]
  refine ⟨by omega,?_⟩
  refine C1.im hN (by rfl) (by rfl) ?_
  simp only [tZ,↓un_u,simprocAttr,hwi]
  refine ⟨by omega,i + 1,by omega,by omega,?_⟩
  rw [qS hi2,List.map_append]
  exact .oA [(4096,some 4096),(1,some 1)] []
 ·have hil:i = d.qs.length:=by omega
  subst hil
  rw [List.take_length]
  rw [List.map_map] at hM
  refine C1.shut [1] hM ?_ (by rfl) rfl ?_
  ·all_goals (try exact clA)
  refine sW ?_
  exact .oA [] []
theorem JR (s:Sch) (hs:Jc s) (d:Dcl):Spc Tryz.prog kN [schT s,dclT d] [] (.tup [vPs (jA s d),vI (dclE s d)]) []:=by
 refine qd qd0 mixm (by simp) fun e _ hst=>qk ?_
 unfold yo
 refine sW ?_
 refine C1.im (Qu s hs d) (by rfl) (by rfl) ?_
 simp only [tZ,↓un_u,simprocAttr,bne_iff_ne,bne_eq_false_iff_eq]
 refine ⟨fun h=>?_,fun h=>?_⟩
 ·rw [jA,if_pos h]
  exact .oA [] []
 refine C1.im (JQ s hs d h) (by rfl) (by rfl) ?_
 rw [h]
 refine sW ?_
 exact .oA [] []
theorem jf (a b:List Pk) (ha:a.length < 4611686018427387904) (hb:b.length < 4611686018427387904):Spc Tryz.prog za [vPs a,vPs b] [] (vB (covB a b)) []:=by
 refine qd WJ mixm (by simp) fun e _ hst=>qk ?_
 unfold kW
 refine sW ?_
 refine C1.im (Yt b a hb ha) (by rfl) (by rfl) ?_
 refine sW ?_
 exact .oA [] []
theorem Yw {a b:List Pk}:covB a b = true↔∀ x∈a,∃ y∈b,y.col = x.col∧x.lev≤y.lev:=by
 unfold covB
 simp only [List.all_eq_true,List.any_eq_true,Bool.and_eq_true,beq_iff_eq,decide_eq_true_eq]
theorem zt1 {s:Sch} {d:Dcl} (h:dclE s d = 0) (l:List Pk) (hl:l.Pairwise fun a b=>a.col < b.col):covB (jA s d) l = d.qs.all fun q=>covB (kI s q) l:=by
 rw [Bool.eq_iff_iff,Yw,List.all_eq_true,Zh h]
 constructor
 ·intro H q hq
  rw [Yw]
  intro x hx
  have hb:=qy4 q x hx
  have hm:x∈zb1 s d.qs:=List.mem_flatMap.2 ⟨q,hq,hx⟩
  have hge:=zt0 hm
  obtain ⟨k,hk⟩:=Int.eq_ofNat_of_zero_le (show 0≤x.col by omega)
  rw [hk] at hge
  have hx0:0 < x.lev:=by
   by_cases hq0:qstE s q = 0
   ·rw [Zf hq0] at hx
    obtain ⟨_,_,k2,rfl⟩:=yO.1 hx
    exact k2
   ·rw [kI,if_pos hq0] at hx;simp at hx
  obtain ⟨y,hy,e1,e2⟩:=H ⟨k,mxl (zb1 s d.qs) k⟩ (yO.2 ⟨k,by omega,by omega,rfl⟩)
  exact ⟨y,hy,by rw [e1,hk],by dsimp only at e2;omega⟩
 ·intro H x hx
  obtain ⟨k,k1,k2,rfl⟩:=yO.1 hx
  obtain ⟨p,hp,e1,e2⟩:=qy3 k2
  obtain ⟨q,hq,hp2⟩:=List.mem_flatMap.1 hp
  obtain ⟨y,hy,e3,e4⟩:=Yw.1 (H q hq) p hp2
  exact ⟨y,hy,by rw [e3,e1],by dsimp only;omega⟩
theorem zB9 {s:Sch} {d:Dcl} (h:dclE s d = 0) {l:List Pk} (hl:Yl s l = 0):qH5 s d l = if covB (jA s d) l = true then 0 else 23:=by
 obtain ⟨_,_,hasc⟩:=zq9 hl
 obtain ⟨_,_,_,_,_,_,_,hqs⟩:=ql9 h
 rw [qH5,if_neg (by rw [h];simp),if_neg (by rw [hl];simp),zt1 h l hasc]
 have hs:∀ i,i < d.qs.length→sufB s (qAt d.qs i) l = covB (kI s (qAt d.qs i)) l:=fun i hi=>by
  rw [sufB,hqs i hi,hl];simp
 by_cases hall:(d.qs.all fun q=>covB (kI s q) l) = true
 ·rw [if_pos hall]
  refine ql8 fun i hi=>?_
  have:=List.all_eq_true.1 hall (qAt d.qs i) (by rw [qAt,qr hi];exact List.getElem_mem _)
  rw [hs i hi,this];rfl
 ·rw [if_neg hall]
  refine Classical.byContradiction fun hne=>hall ?_
  rw [List.all_eq_true]
  intro q hq
  obtain ⟨i,hi,rfl⟩:=List.getElem_of_mem hq
  have key:∀ n,n≤d.qs.length→(zF (fun i=>if sufB s (qAt d.qs i) l = true then 0 else 23) n = 0∨zF (fun i=>if sufB s (qAt d.qs i) l = true then 0 else 23) n = 23):=by
   intro n
   induction n with
   | zero=>intro _;exact .inl rfl
   | succ n ih=>
     intro hn
     rw [zF]
     rcases ih (by omega) with e | e
     ·rw [if_neg (by rw [e];simp)];split <;> simp
     ·rw [if_pos (by rw [e];simp)];exact .inr e
  have h0:=(key _ (Nat.le_refl _)).resolve_right hne
  have:=QZ h0 i hi
  rw [hs i hi,qAt,qr hi] at this
  by_cases e:covB (kI s d.qs[i]) l = true
  ·exact e
  ·rw [if_neg e] at this;cases this
theorem qf2 (s:Sch) (hs:Jc s) (d:Dcl) (l:List Pk) (hl:l.length < 4611686018427387904):Spc Tryz.prog yk [schT s,dclT d,vPs l] [] (vI (qH5 s d l)) []:=by
 have hpl:=qI0 s d
 refine qd YK mixm (by simp) fun e _ hst=>qk ?_
 unfold wH
 refine sW ?_
 refine C1.im (Qu s hs d) (by rfl) (by rfl) ?_
 simp only [tZ,↓un_u,simprocAttr,bne_iff_ne,bne_eq_false_iff_eq]
 refine ⟨fun h=>?_,fun h=>?_⟩
 ·rw [qH5,if_pos h]
  exact .oA [] []
 refine C1.im (qp7 s hs l hl) (by rfl) (by rfl) ?_
 simp only [tZ,↓un_u,simprocAttr,bne_iff_ne,bne_eq_false_iff_eq]
 refine ⟨fun h2=>?_,fun h2=>?_⟩
 ·rw [qH5,if_neg (by rw [h];simp),if_pos h2]
  exact .oA [] []
 rw [zB9 h h2]
 refine C1.im (JQ s hs d h) (by rfl) (by rfl) ?_
 refine sW ?_
 refine C1.im (jf (jA s d) l (by omega) hl) (by rfl) (by rfl) ?_
 simp only [tZ,↓un_u,simprocAttr,Bool.not_eq_true',Bool.not_eq_false']
 refine ⟨fun h3=>?_,fun h3=>?_⟩
 ·rw [if_neg (by rw [h3];simp)]
  exact .oA [] []
 ·rw [if_pos h3]
  exact .oA [] []
end Go.Proofs
