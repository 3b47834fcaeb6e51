/- A part of the proof: trees of Go values, short forms, contracts. -/
import Derived.WalkKit
import Derived.Still
import Derived.MapKept
import GoSem.Builtin.Cap
import Derived.Laws.Externs
import GoSem.Extern.SlicesOverlaps
import Derived.Carry
import Derived.ProofKit
import Derived.OpenShut
import Derived.HandedShaped
import Derived.Lay
import Derived.LaidLaws
import Derived.MakeChecks
import Derived.SevenTiedAt
import Derived.Test.YtlpllebfjgflaaaGreatDoorChecked
import Derived.Test.YtlpllebfjgflaaaGreatDoorK17
set_option linter.unusedSimpArgs false
set_option linter.unusedVariables false
namespace Go.Proofs
open Go Go.TL
set_option maxHeartbeats 4000000
open So
theorem SrcOk.rowp {s:Src} (h:SrcOk s):∀ r∈s.rows,0 < r.length:=fun r hr=>row_pos (h.rows r hr)
theorem c_ref04_Apply (s:Src) (d:Edt) (hs:SrcSm s) (hd1:d.row.length < 4611686018427387904):Spc Tryz.prog F_ref04_Apply [srcT s,edtT d] [] (.tup [srcT (applyS s d),vI (applyE s d)]) []:=by
 have hE:=(rfl:applyE s d = applyE s d)
 have hS:applyS s d = if applyE s d≠0 then src0 else ⟨s.sch,applyR s d,if d.kind = 4 then putI s.gone d.id else s.gone,s.ver + 1⟩:=rfl
 conv at hE=>rhs;unfold applyE
 have hbad:∀ v,v≠0→applyE s d = v→applyS s d = src0∧applyE s d = v:=fun v h1 h2=>⟨by rw [hS,h2,if_pos h1],h2⟩
 have hgood:applyE s d = 0→applyS s d = ⟨s.sch,applyR s d,if d.kind = 4 then putI s.gone d.id else s.gone,s.ver + 1⟩:=fun h=>by rw [hS,h,if_neg (by simp)]
 clear hS
 generalize applyE s d = E at hE hbad hgood ⊢
 generalize applyS s d = A at hbad hgood ⊢
 refine spec_of_ir fn_ref04_Apply mixm (by simp) fun e _ hst=>W_start ?_
 unfold ir_ref04_Apply
 refine sW ?_
 refine C1.im (c_ref04_Valid s hs) (by rfl) (by rfl) ?_
 simp only [tZ,↓un_u,simprocAttr,tD,beq_iff_eq,beq_eq_false_iff_ne,Bool.not_eq_true',Bool.not_eq_false']
 refine ⟨fun h=>?_,fun h=>?_⟩
 ·obtain ⟨a1,a2⟩:=hbad 13 (by decide) (by rw [hE,if_pos h])
  rw [a1,a2]
  exact .oA [] []
 rw [if_neg (by grind)] at hE
 have hok:=srcB_ok.1 h.1
 have hv:=hok.ver
 have hrp:=hok.rowp
 have hnr:=hok.nr
 have hng:=hok.ng
 have hw:IntKind.i64.wrap (s.ver + 1) = s.ver + 1:=IntWalk.i64_in _ (by omega)
 have hR:applyR s d = if d.kind = 1∨d.kind = 2 then putR s.rows d.row else dropR s.rows d.id:=rfl
 have hg0:0 < d.row.length→(d.row.map vI).getD 0 .junk = vI (hd d.row):=getD_hd
 by_cases k12:d.kind = 1∨d.kind = 2
 ·rw [if_pos k12] at hE hR
  have hk4:¬ d.kind = 4:=by omega
  rw [if_neg hk4,hR] at hgood
  refine mid (fun hmain=>⟨fun k1=>⟨fun _=>hmain,fun k=>absurd k1 k⟩,fun k1=>⟨fun k2=>hmain,fun k2=>absurd k12 fun h=>h.elim k1 k2⟩⟩) ?_
  refine C1.im (c_ref02_Row s.sch hs.1 d.row hd1) (by rfl) (by rfl) ?_
  simp only [tZ,↓un_u,simprocAttr,bne_iff_ne,bne_eq_false_iff_eq]
  refine ⟨fun h2=>?_,fun h2=>?_⟩
  ·obtain ⟨a1,a2⟩:=hbad _ h2 (by rw [hE,if_pos h2])
   rw [a1,a2]
   exact .oA [] []
  rw [if_neg (by rw [h2];simp)] at hE
  have hdp:=row_pos h2
  have hdl:=(rowE_ok h2).2.1
  have hnc:=(schE_ok hok.sch).nc
  have hF:=c_ref04_Find s (hd d.row) (by omega)
  simp only [tZ,↓un_u,simprocAttr,getD_hd hdp]
  refine ⟨by omega,?_⟩
  refine C1.im (c_ref01_Has s.gone (hd d.row) (by omega)) (by rfl) (by rfl) ?_
  refine sW ?_
  refine ⟨by kernel_rfl,fun h3=>?_,fun h3=>?_⟩
  ·obtain ⟨a1,a2⟩:=hbad 20 (by decide) (by rw [hE,if_pos h3])
   rw [a1,a2]
   exact .oA [] []
  rw [if_neg (by rw [h3];simp)] at hE
  simp only [tZ,↓un_u,simprocAttr,getD_hd hdp]
  refine ⟨by omega,?_⟩
  refine C1.im hF (by rfl) (by rfl) ?_
  simp only [tZ,↓un_u,simprocAttr,tD,beq_iff_eq,beq_eq_false_iff_ne]
  refine ⟨by kernel_rfl,fun h4=>?_,fun h4=>?_⟩
  ·obtain ⟨a1,a2⟩:=hbad 10 (by decide) (by rw [hE,if_pos (by omega)])
   rw [a1,a2]
   exact .oA [] []
  rw [if_neg (by omega)] at hE
  refine ⟨fun h5=>?_,fun h5=>?_⟩
  ·obtain ⟨a1,a2⟩:=hbad 1 (by decide) (by rw [hE,if_pos (by omega)])
   rw [a1,a2]
   exact .oA [] []
  rw [if_neg (by omega)] at hE
  simp only [tZ,↓un_u,simprocAttr,tD,beq_iff_eq,beq_eq_false_iff_ne,Bool.not_eq_true',Bool.not_eq_false']
  refine ⟨fun h6=>?_,fun h6=>?_⟩
  ·obtain ⟨a1,a2⟩:=hbad 19 (by decide) (by rw [hE,if_pos (by omega)])
   rw [a1,a2]
   exact .oA [] []
  rw [if_neg (by omega)] at hE
  have a1:=hgood hE
  rw [a1,hE]
  refine ⟨by omega,?_⟩
  refine C1.shut [86032] (c_ref04_Put s.rows d.row (by omega) hrp hdp) ?_ (by rfl) rfl ?_
  ·simp only [tL,simprocAttr]
   exact ints_v _
  simp only [tZ,↓un_u,simprocAttr,hw]
  refine ⟨by kernel_rfl,?_⟩
  exact .oA [] []
 ·rw [if_neg k12] at hE hR
  rw [hR] at hgood
  refine ⟨fun k1=>absurd (.inl k1) k12,fun k1=>⟨fun k2=>absurd (.inr k2) k12,fun k2=>⟨fun k3=>?_,fun k3=>⟨fun k4=>?_,fun k4=>?_⟩⟩⟩⟩
  ·rw [if_pos k3] at hE
   rw [if_neg (by omega)] at hgood
   refine C1.im (c_ref04_Find s d.id (by omega)) (by rfl) (by rfl) ?_
   refine sD ?_
   refine ⟨fun h2=>?_,fun h2=>?_⟩
   ·obtain ⟨a1,a2⟩:=hbad 19 (by decide) (by rw [hE,if_pos h2])
    rw [a1,a2]
    exact .oA [] []
   rw [if_neg h2] at hE
   have a1:=hgood hE
   rw [a1,hE]
   refine C1.im (c_ref04_Drop s.rows d.id (by omega) hrp) (by rfl) (by rfl) ?_
   simp only [tZ,↓un_u,simprocAttr,hw]
   exact .oA [] []
  ·rw [if_neg k3,if_pos k4] at hE
   rw [if_pos k4] at hgood
   refine ⟨fun h2=>?_,fun h2=>?_⟩
   ·obtain ⟨a1,a2⟩:=hbad 2 (by decide) (by rw [hE,if_pos (by omega)])
    rw [a1,a2]
    exact .oA [] []
   rw [if_neg (by omega)] at hE
   refine C1.im (c_ref01_Has s.gone d.id (by omega)) (by rfl) (by rfl) ?_
   refine sW ?_
   refine ⟨fun h3=>?_,fun h3=>?_⟩
   ·obtain ⟨a1,a2⟩:=hbad 20 (by decide) (by rw [hE,if_pos h3])
    rw [a1,a2]
    exact .oA [] []
   rw [if_neg (by rw [h3];simp)] at hE
   have a1:=hgood hE
   rw [a1,hE]
   refine C1.im (c_ref04_Drop s.rows d.id (by omega) hrp) (by rfl) (by rfl) ?_
   refine sW ?_
   refine C1.im (c_ref01_Put s.gone d.id (by omega)) (by rfl) (by rfl) ?_
   simp only [tZ,↓un_u,simprocAttr,hw]
   exact .oA [] []
  ·rw [if_neg k3,if_neg k4] at hE
   obtain ⟨a1,a2⟩:=hbad 4 (by decide) hE
   rw [a1,a2]
   exact .oA [] []
theorem apply_sm {s:Src} {d:Edt} (h:SrcSm s) (hd1:d.row.length < 4611686018427387904) (he:applyE s d = 0):SrcSm (applyS s d):=by
 have e0:applyS s d = ⟨s.sch,applyR s d,if d.kind = 4 then putI s.gone d.id else s.gone,s.ver + 1⟩:=by rw [applyS,if_neg (by rw [he];simp)]
 rw [e0]
 refine ⟨h.1,fun r hr=>?_⟩
 dsimp only at hr
 have hb:srcB s = true:=by
  unfold applyE at he
  split at he
  ·cases he
  ·rename_i h1
   cases e:srcB s with
   | true=>rfl
   | false=>exact absurd (.inl e) h1
 unfold applyR at hr
 split at hr
 ·rcases (putR_mem (srcB_ok.1 hb).asc).1 hr with hr | hr
  ·rw [hr];exact hd1
  ·exact h.2 r hr.1
 ·exact h.2 r (List.mem_filter.1 hr).1
theorem atS_snoc:∀ (l:List Edt) (s:Src) (d:Edt),(atS s l).2 = 0→atS s (l ++ [d]) = if applyE (atS s l).1 d≠0 then (src0,applyE (atS s l).1 d) else (applyS (atS s l).1 d,0)
 | [],s,d,_=>rfl
 | x :: r,s,d,h=>by
   rw [atS] at h
   rw [List.cons_append,atS,atS]
   split at h
   ·rename_i h1;exact absurd h h1
   ·rename_i h1
    rw [if_neg h1,if_neg h1]
    exact atS_snoc r _ d h
theorem atS_stays:∀ (l m:List Edt) (s:Src),(atS s l).2≠0→atS s (l ++ m) = atS s l
 | [],m,s,h=>by simp [atS] at h
 | x :: r,m,s,h=>by
   rw [atS] at h
   rw [List.cons_append,atS,atS]
   split at h
   ·rename_i h1;rw [if_pos h1,if_pos h1]
   ·rename_i h1
    rw [if_neg h1,if_neg h1]
    exact atS_stays r m _ h
def atI (s:Src) (l:List Edt) (n:Int):Src×Int:=if n < 0∨n > l.length then (src0,13) else atS s (l.take n.toNat)
theorem c_ref04_At (s:Src) (l:List Edt) (n:Int) (hs:SrcSm s) (hd1:∀ d∈l,d.row.length < 4611686018427387904) (hl:l.length < 4611686018427387904):Spc Tryz.prog F_ref04_At [srcT s,.sl 3 (l.map edtT),vI n] [] (.tup [srcT (atI s l n).1,vI (atI s l n).2]) []:=by
 refine spec_of_ir fn_ref04_At mixm (by simp) fun e _ hst=>W_start ?_
 unfold ir_ref04_At
 refine sD ?_
 refine ⟨fun h=>?_,fun h=>?_⟩
 ·rw [atI,if_pos h]
  exact .oA [] []
 rw [atI,if_neg (by omega)]
 obtain ⟨N,rfl⟩:=Int.eq_ofNat_of_zero_le (show 0≤n by omega)
 rw [Int.toNat_natCast]
 refine W_loopF mixm (α:=Nat) [8,18] (fun i=>i≤N∧(atS s (l.take i)).2 = 0∧SrcSm (atS s (l.take i)).1) (fun i=>[(8,vI i)]) (fun i=>[(4096,.arr 5 [srcT (atS s (l.take i)).1] false),(4100,.arr 5 [srcT src0] false)]) (fun i=>N - i) 0 ⟨by omega,rfl,hs⟩ ?_ fun i hi=>?_
 ·show Le _ _ ⟨_,[(4096,.arr 5 [srcT s] false),(4100,.arr 5 [srcT src0] false)]⟩
  exact .oA [(4096,some 4096),(4100,some 4100)] []
 obtain ⟨i1,i2,i3⟩:=hi
 refine sD ?_
 refine ⟨fun h2=>?_,fun h2=>?_⟩
 ·have hi2:i < l.length:=by omega
  have hwi:=i64_succ (i:=i) (by omega)
  have hsn:=atS_snoc (l.take i) s l[i] i2
  rw [← take_snoc hi2] at hsn
  have hdr:=hd1 _ (List.getElem_mem hi2)
  generalize (atS s (l.take i)).1 = x at hsn i3 ⊢
  simp only [tZ,↓un_u,simprocAttr,Int.toNat_natCast,getD_mapT hi2]
  refine ⟨by omega,?_⟩
  refine C1.im (c_ref04_Apply x l[i] i3 hdr) (by rfl) (by rfl) ?_
  simp only [tZ,↓un_u,simprocAttr,bne_iff_ne,bne_eq_false_iff_eq,hwi]
  refine ⟨by kernel_rfl,fun h3=>?_,fun h3=>?_⟩
  ·rw [if_pos h3] at hsn
   have e1:l.take N = l.take (i + 1) ++ (l.take N).drop (i + 1):=by
    have:=(List.take_append_drop (i + 1) (l.take N)).symm
    rwa [List.take_take,Nat.min_eq_left (by omega)] at this
   have e2:atS s (l.take N) = (src0,applyE x l[i]):=by
    rw [e1,atS_stays _ _ _ (by rw [hsn];exact h3),hsn]
   rw [e2]
   exact .oA [] []
  ·rw [if_neg (by rw [h3];simp)] at hsn
   refine ⟨i + 1,⟨by omega,by rw [hsn],by rw [hsn];exact apply_sm i3 hdr h3⟩,by omega,?_⟩
   rw [hsn]
   exact .oA [(4096,some 4096),(4100,some 4100)] []
 ·have hil:i = N:=by omega
  subst hil
  rw [i2]
  exact .oA [] []
end Go.Proofs
set_option linter.unusedSimpArgs false
set_option linter.unusedVariables false
namespace Go.Proofs
open Go Go.TL
def ordB (l:List (List Int)):Bool:=(List.range l.length).all fun i=>decide (0 < (l.getD i []).length) && (decide (i = 0) || decide (hd (l.getD (i - 1) []) < hd (l.getD i [])))
def hasK (l:List (List Int)) (k:Int):Bool:=l.any fun r=>hd r == k
def rowK (l:List (List Int)) (k:Int):Option (List Int):=l.find? fun r=>hd r == k
def appR (a:List (List Int)) (g:List Int) (rs:List (List Int)):List (List Int):=rs.foldl putR (a.filter fun r=>!g.contains (hd r))
theorem asc_uniq {a b:List (List Int)} (ha:AscR a) (hb:AscR b) (h:∀ r,r∈a↔r∈b):a = b:=by
 refine So.srt_uniq (lt:=fun x y=>decide (hd x < hd y)) ⟨fun x y h=>?_,fun x y z h1 h2=>?_⟩ (ha.imp fun h=>decide_eq_true h) (hb.imp fun h=>decide_eq_true h) h
 ·simp only [decide_eq_true_eq] at h
  exact decide_eq_false (by omega)
 ·simp only [decide_eq_false_iff_not] at h1 h2 ⊢
  omega
theorem asc_key {l:List (List Int)} (h:AscR l) {r s:List Int} (hr:r∈l) (hs:s∈l) (e:hd r = hd s):r = s:=by
 obtain ⟨i,hi,rfl⟩:=List.getElem_of_mem hr
 obtain ⟨j,hj,rfl⟩:=List.getElem_of_mem hs
 have hp:=List.pairwise_iff_getElem.1 h
 by_cases h1:i < j
 ·have:=hp i j hi hj h1;omega
 ·by_cases h2:j < i
  ·have:=hp j i hj hi h2;omega
  ·have:i = j:=by omega
   subst this;rfl
theorem rowK_some {l:List (List Int)} (h:AscR l) {r:List Int}:rowK l (hd r) = some r↔r∈l:=by
 constructor
 ·intro e;exact List.mem_of_find?_eq_some e
 ·intro hr
  unfold rowK
  cases e:l.find? (fun s=>hd s == hd r) with
  | none=>
    have:=List.find?_eq_none.1 e r hr
    simp at this
  | some s=>
    have h1:=List.mem_of_find?_eq_some e
    have h2:=List.find?_some e
    rw [asc_key h h1 hr (by simpa using h2)]
def ascI (l:List Int):Bool:=(List.range l.length).all fun i=>asc2 l i
def appE (a:Ext) (c:Chg):Int:=
 if ordB a.rows = false∨ordB c.rows = false∨ascI c.gone = false∨(c.rows.any fun r=>decide (r.length≠a.picks.length + 1)) = true then 11
 else if (c.gone.any fun k=>!hasK a.rows k) = true then 21 else if (c.gone.any fun k=>hasK c.rows k) = true then 10 else 0
structure ExtOk (x:Ext):Prop where
 ord:ordB x.rows = true
 len:∀ r∈x.rows,r.length = x.picks.length + 1
end Go.Proofs
set_option linter.unusedSimpArgs false
set_option linter.unusedVariables false
namespace Go.Proofs
open Go Go.TL
set_option maxRecDepth 4000
set_option maxHeartbeats 8000000
open So
def RwSm (l:List (List Int)):Prop:=l.length≤1000000∧∀ r∈l,r.length * 8≤140737488355328
structure ExtSm (x:Ext):Prop where
 rows:RwSm x.rows
 picks:x.picks.length * 16≤140737488355328
structure ChgSm (c:Chg):Prop where
 rows:RwSm c.rows
 gone:c.gone.length≤1000000
end Go.Proofs
set_option linter.unusedSimpArgs false
set_option linter.unusedVariables false
namespace Go.Proofs
open Go Go.TL
set_option maxHeartbeats 8000000
open So
theorem c_slices_Clone_int (l:List Int) (hl:l.length * 8≤140737488355328):Spc Tryz.prog F_slices_Clone_int [vIs l] [] (vIs l) []:=by
 refine spec_of_ir fn_slices_Clone_int mixm (by simp) fun e _ hst=>W_start ?_
 unfold ir_slices_Clone_int
 refine sW ?_
 refine ⟨fun h=>?_,?_⟩
 ·have:l = []:=by
   simpa using h
  subst this
  exact .oA [] []
 ·refine ⟨by omega,?_⟩
  exact .oA [] [16384]
theorem c_slices_IndexFunc_Lint (p:(List Int)→Bool) (f:FuncId) (caps:List T) (hcap:imL caps = true) (l:List (List Int)) (hf:∀ y∈l,Spc Tryz.prog f (vIs y :: caps) [] (vB (p y)) []) (hl:l.length < 4611686018427387904) :
 Spc Tryz.prog F_slices_IndexFunc_Lint [.sl 1 (l.map vIs),.clo f caps] [] (vI (idxI p l)) []:=by
 refine spec_of_ir fn_slices_IndexFunc_Lint mixm (by simp) fun e _ hst=>W_start ?_
 unfold ir_slices_IndexFunc_Lint
 refine sW ?_
 refine W_loopF mixm (α:=Nat) [8] (fun i=>i≤l.length∧((l.take i).any p = false)) (fun i=>[(8,vI i)]) (fun i=>[]) (fun i=>l.length - i) 0 ⟨by omega,?_⟩ ?_ fun i hi=>?_
 ·simp
 ·exact .oA [] []
 simp only [tZ,↓un_u,simprocAttr,decide_eq_true_eq,decide_eq_false_iff_not]
 refine ⟨fun h=>?_,fun h=>?_⟩
 ·have hi2:i < l.length:=by omega
  have hwi:=i64_succ (i:=i) (by omega)
  simp only [tZ,↓un_u,simprocAttr,Int.toNat_natCast,getD_mapT hi2,hwi,cells_v]
  refine ⟨by omega,?_⟩
  refine C1.im (hf l[i] (List.getElem_mem hi2)) (imAL_cons rfl hcap) rfl ?_
  refine sW ?_
  refine ⟨fun h3=>?_,fun h3=>⟨i + 1,⟨by omega,any_snoc hi2 hi.2 h3⟩,by omega,?_⟩⟩
  ·rw [idxI,if_pos (any_at hi2 h3),findIdx_at hi2 hi.2 h3]
   exact .imR rfl rfl
  ·exact .oA [] []
 ·have h2:i = l.length:=by omega
  have h3:=hi.2
  rw [h2,List.take_length] at h3
  rw [idxI,if_neg (by rw [h3];simp)]
  exact .imR rfl rfl
def idxN (n:Int):List Int→Nat
 | []=>0
 | x :: r=>if x = n then 0 else idxN n r + 1
theorem idxN_at {n:Int}:∀ {l:List Int} {i:Nat} (h:i < l.length),n∉l.take i→l[i] = n→idxN n l = i
 | [],i,h,_,_=>by simp at h
 | x :: r,0,h,_,hp=>by simp at hp;simp [idxN,hp]
 | x :: r,i + 1,h,h1,hp=>by
   simp only [List.take_succ_cons,List.mem_cons,not_or] at h1
   simp only [idxN]
   rw [if_neg (fun e=>h1.1 e.symm),idxN_at (l:=r) (i:=i) (by simpa using h) h1.2 (by simpa using hp)]
def indexI (l:List Int) (n:Int):Int:=if n∈l then idxN n l else -1
theorem c_slices_Index_int (l:List Int) (n:Int) (hl:l.length < 4611686018427387904):Spc Tryz.prog F_slices_Index_int [vIs l,vI n] [] (vI (indexI l n)) []:=by
 refine spec_of_ir fn_slices_Index_int mixm (by simp) fun e _ hst=>W_start ?_
 unfold ir_slices_Index_int
 refine sW ?_
 refine W_loopF mixm (α:=Nat) [8] (fun i=>i≤l.length∧(n∉l.take i)) (fun i=>[(8,vI i)]) (fun i=>[]) (fun i=>l.length - i) 0 ⟨by omega,?_⟩ ?_ fun i hi=>?_
 ·simp
 ·exact .oA [] []
 simp only [tZ,↓un_u,simprocAttr,decide_eq_true_eq,decide_eq_false_iff_not]
 refine ⟨fun h=>?_,fun h=>?_⟩
 ·have hi2:i < l.length:=by omega
  have hwi:=i64_succ (i:=i) (by omega)
  simp only [tZ,↓un_u,simprocAttr,Int.toNat_natCast,getD_mapT hi2,hwi,beq_iff_eq,beq_eq_false_iff_ne]
  refine ⟨by omega,fun h3=>?_,fun h3=>⟨i + 1,⟨by omega,?_⟩,by omega,?_⟩⟩
  ·have hm:n∈l:=by rw [h3];exact List.getElem_mem hi2
   rw [indexI,if_pos hm,idxN_at hi2 hi.2 h3.symm]
   exact .imR rfl rfl
  ·rw [take_snoc hi2,List.mem_append]
   rintro (h4 | h4)
   ·exact hi.2 h4
   ·simp at h4;exact h3 h4
  ·exact .oA [] []
 ·have h2:i = l.length:=by omega
  have h3:=hi.2
  rw [h2,List.take_length] at h3
  rw [indexI,if_neg h3]
  exact .imR rfl rfl
theorem c_slices_Contains_int (l:List Int) (n:Int) (hl:l.length < 4611686018427387904):Spc Tryz.prog F_slices_Contains_int [vIs l,vI n] [] (vB (l.contains n)) []:=by
 refine spec_of_ir fn_slices_Contains_int mixm (by simp) fun e _ hst=>W_start ?_
 unfold ir_slices_Contains_int
 refine sW ?_
 refine C1.im (c_slices_Index_int l n hl) rfl (by rfl) ?_
 refine sW ?_
 refine .imR ?_ rfl
 unfold indexI
 by_cases h:n∈l
 ·rw [if_pos h,List.contains_iff_mem.2 h];simp
 ·rw [if_neg h]
  cases hc:l.contains n
  ·simp
  ·exact absurd (List.contains_iff_mem.1 hc) h
def cmpK (k:Int) (r:List Int):Int:=if hd r < k then -1 else if hd r > k then 1 else 0
def fndN (l:List (List Int)) (k:Int):Nat:=l.findIdx fun y=>decide (cmpK k y≥0)
theorem fndN_le (l:List (List Int)) (k:Int):fndN l k≤l.length:=List.findIdx_le_length
theorem fndN_at {l:List (List Int)} {k:Int} (ha:AscR l) (h:hasK l k = true):∃ hj:fndN l k < l.length,rowK l k = some l[fndN l k]:=by
 obtain ⟨x,hx,e⟩:=List.any_eq_true.1 h
 have e:hd x = k:=by simpa using e
 have h1:fndN l k < l.length:=List.findIdx_lt_length_of_exists ⟨x,hx,by unfold cmpK;grind⟩
 refine ⟨h1,?_⟩
 have h2:=List.findIdx_getElem (p:=fun y=>decide (cmpK k y≥0)) (xs:=l) (w:=h1)
 have h3:¬ hd l[fndN l k] < k:=by
  have:cmpK k l[fndN l k]≥0:=of_decide_eq_true h2
  unfold cmpK at this
  grind
 obtain ⟨i,hi,rfl⟩:=List.getElem_of_mem hx
 have hp:=List.pairwise_iff_getElem.1 ha
 have h4:fndN l k = i:=by
  by_cases c1:fndN l k < i
  ·have:=hp _ i h1 hi c1;omega
  ·by_cases c2:i < fndN l k
   ·have:=List.not_of_lt_findIdx c2
    simp [cmpK] at this
    grind
   ·omega
 have h5:l[fndN l k] = l[i]:=by simp only [h4]
 rw [h5]
 have h6:=(rowK_some ha).2 (List.getElem_mem hi)
 rw [e] at h6
 exact h6
end Go.Proofs
set_option linter.unusedSimpArgs false
set_option linter.unusedVariables false
namespace Go.Proofs
open Go Go.TL
set_option maxRecDepth 4000
set_option maxHeartbeats 8000000
def bsN (p:List Int→Bool) (l:List (List Int)):Nat→Nat→Nat→Nat
 | 0,i,_=>i
 | f + 1,i,j=>if i < j then (if p (l.getD ((i + j) / 2) []) = true then bsN p l f ((i + j) / 2 + 1) j else bsN p l f i ((i + j) / 2)) else i
theorem bsN_fuel {p:List Int→Bool} {l:List (List Int)}:∀ (f g i j:Nat),j - i < f→j - i < g→bsN p l f i j = bsN p l g i j
 | 0,_,_,_,h,_=>by omega
 | _ + 1,0,_,_,_,h=>by omega
 | f + 1,g + 1,i,j,h1,h2=>by
   simp only [bsN]
   split
   ·split
    ·exact bsN_fuel f g _ _ (by omega) (by omega)
    ·exact bsN_fuel f g _ _ (by omega) (by omega)
   ·rfl
theorem bsN_le {p:List Int→Bool} {l:List (List Int)}:∀ (f i j:Nat),i≤j→i≤bsN p l f i j∧bsN p l f i j≤j
 | 0,i,j,h=>⟨Nat.le_refl _,h⟩
 | f + 1,i,j,h=>by
   simp only [bsN]
   split
   ·split
    ·have:=bsN_le (p:=p) (l:=l) f ((i + j) / 2 + 1) j (by omega)
     omega
    ·have:=bsN_le (p:=p) (l:=l) f i ((i + j) / 2) (by omega)
     omega
   ·omega
theorem bsN_mono {p:List Int→Bool} {l:List (List Int)} (hm:∀ (i j:Nat) (hi:i < l.length) (hj:j < l.length),i < j→p l[j] = true→p l[i] = true):∀ (f i j:Nat),j - i < f→i≤j→j≤l.length→
 (∀ (m:Nat) (h:m < l.length),m < i→p l[m] = true)→(∀ (m:Nat) (h:m < l.length),j≤m→p l[m] = false)→bsN p l f i j = l.findIdx fun y=>!p y
 | 0,_,_,h,_,_,_,_=>by omega
 | f + 1,i,j,h,h1,h2,h3,h4=>by
   simp only [bsN]
   split
   ·rename_i hij
    have hh:(i + j) / 2 < l.length:=by omega
    rw [show l.getD ((i + j) / 2) [] = l[(i + j) / 2] from getD_get hh]
    split
    ·rename_i hp
     refine bsN_mono hm f _ _ (by omega) (by omega) h2 (fun m hm1 hm2=>?_) h4
     by_cases e:m = (i + j) / 2
     ·subst e;exact hp
     ·exact hm m _ hm1 hh (by omega) hp
    ·rename_i hp
     refine bsN_mono hm f _ _ (by omega) (by omega) (by omega) h3 fun m hm1 hm2=>?_
     cases e2:p l[m] with
     | false=>rfl
     | true=>
       by_cases e:m = (i + j) / 2
       ·subst e;exact absurd e2 hp
       ·exact absurd (hm _ m hh hm1 (by omega) e2) hp
   ·have hij:i = j:=by omega
    subst hij
    by_cases hil:i < l.length
    ·refine (findIdx_at hil ?_ ?_).symm
     ·rw [List.any_eq_false]
      intro y hy
      obtain ⟨m,hm1,rfl⟩:=List.getElem_of_mem hy
      rw [List.length_take] at hm1
      rw [List.getElem_take,h3 m (by omega) (by omega)]
      simp
     ·rw [h4 i hil (Nat.le_refl _)];rfl
    ·have:i = l.length:=by omega
     subst this
     symm
     rw [List.findIdx_eq_length]
     intro y hy
     obtain ⟨m,hm1,rfl⟩:=List.getElem_of_mem hy
     rw [h3 m hm1 hm1];rfl
def hitB (c:List Int→Int) (o:Option (List Int)):Bool:=match o with | some y=>c y == 0 | none=>false
theorem c_bs_any (c:List Int→Int) (x:Int) (f:FuncId) (l:List (List Int)) (hf:∀ y∈l,Spc Tryz.prog f [vIs y,vI x] [] (vI (c y)) []) (hl:l.length < 4611686018427387904) :
 Spc Tryz.prog F_slices_BinarySearchFunc_LLint_Lint_int [.sl 1 (l.map vIs),vI x,.clo f []] [] (.tup [vI (bsN (fun y=>decide (c y < 0)) l (l.length + 1) 0 l.length),vB (hitB c l[bsN (fun y=>decide (c y < 0)) l (l.length + 1) 0 l.length]?)]) []:=by
 have hB:=bsN_le (p:=fun y=>decide (c y < 0)) (l:=l) (l.length + 1) 0 l.length (by omega)
 have hB0:=(rfl:bsN (fun y=>decide (c y < 0)) l (l.length + 1) 0 l.length = bsN (fun y=>decide (c y < 0)) l (l.length + 1) 0 l.length)
 generalize hR:bsN (fun y=>decide (c y < 0)) l (l.length + 1) 0 l.length = R at hB ⊢
 rw [hR] at hB0
 refine spec_of_ir fn_slices_BinarySearchFunc_LLint_Lint_int mixm (by simp) fun e _ hst=>W_start ?_
 unfold ir_slices_BinarySearchFunc_LLint_Lint_int
 refine sW ?_
 refine W_loopF mixm (α:=Nat×Nat) [9,10] (fun p=>p.1≤p.2∧p.2≤l.length∧bsN (fun y=>decide (c y < 0)) l (l.length + 1) p.1 p.2 = R) (fun p=>[(9,vI p.1),(10,vI p.2)]) (fun p=>[]) (fun p=>p.2 - p.1) (0,l.length) ?_ ?_ fun p hp=>?_
 ·exact ⟨by simp,by simp,hR⟩
 ·exact .oA [] []
 obtain ⟨i,j⟩:=p
 obtain ⟨h1,h2,h3⟩:=hp
 dsimp only at h1 h2 h3
 rw [bsN_fuel (l.length + 1) (j - i + 1) i j (by omega) (by omega),bsN] at h3
 simp only [tZ,↓un_u,simprocAttr,decide_eq_true_eq,decide_eq_false_iff_not]
 refine ⟨fun h5=>?_,fun h5=>?_⟩
 ·have hij:i < j:=by omega
  rw [if_pos hij] at h3
  obtain ⟨h,hh,hhi,hhj⟩:∃ h:Nat,h = (i + j) / 2∧i≤h∧h < j:=⟨(i + j) / 2,rfl,by omega,by omega⟩
  rw [← hh] at h3
  have hw1:IntKind.i64.wrap ((i:Int) + (j:Int)) = ((i + j:Nat):Int):=by rw [IntWalk.i64_in _ (by omega)];omega
  have hw2:IntKind.u64.wrap ((i + j:Nat):Int) = ((i + j:Nat):Int):=IntWalk.u64_in _ (by omega)
  have hw3:shrI .u64 ((i + j:Nat):Int) 1 = (h:Int):=by
   simp only [shrI]
   rw [show (min (1:Int).toNat IntKind.u64.bits) = 1 from rfl,Int.fdiv_eq_ediv_of_nonneg _ (by decide)]
   omega
  have hw4:IntKind.i64.wrap (h:Int) = (h:Int):=IntWalk.i64_in _ (by omega)
  have hlt:h < l.length:=by omega
  have hws:=i64_succ (i:=h) (by omega)
  have hcall:=hf l[h] (List.getElem_mem hlt)
  rw [show l.getD h [] = l[h] from getD_get hlt] at h3
  simp only [tZ,↓un_u,simprocAttr,hw1,hw2,hw3,hw4,Int.toNat_natCast,getD_mapT hlt]
  refine ⟨by omega,?_⟩
  refine C1.im hcall rfl rfl ?_
  simp only [tZ,↓un_u,simprocAttr,decide_eq_true_eq,decide_eq_false_iff_not,hws]
  refine ⟨fun h6=>?_,fun h6=>?_⟩
  ·rw [if_pos (decide_eq_true h6),bsN_fuel (j - i) (l.length + 1) (h + 1) j (by omega) (by omega)] at h3
   refine ⟨(h + 1,j),⟨by simp only;omega,h2,h3⟩,by simp only;omega,?_⟩
   exact .oA [] []
  ·rw [if_neg (fun k=>h6 (of_decide_eq_true k)),bsN_fuel (j - i) (l.length + 1) i h (by omega) (by omega)] at h3
   refine ⟨(i,h),⟨by simp only;omega,by simp only;omega,h3⟩,by simp only;omega,?_⟩
   exact .oA [] []
 ·have hij:i = j:=by omega
  subst hij
  rw [if_neg (by omega)] at h3
  subst h3
  by_cases hil:i < l.length
  ·have hg:decide ((i:Int) < (l.length:Int)) = true:=by simp;omega
   have hcall:=hf l[i] (List.getElem_mem hil)
   rw [List.getElem?_eq_getElem hil,hitB]
   simp only [tZ,↓un_u,simprocAttr,hg,Int.toNat_natCast,getD_mapT hil]
   refine ⟨by omega,C2.one (by first | trivial | omega) (C1.im hcall rfl rfl ?_)⟩
   refine sW ?_
   exact .oA [] []
  ·have hg:decide ((i:Int) < (l.length:Int)) = false:=by simp;omega
   rw [List.getElem?_eq_none (by omega),hitB]
   simp only [tZ,↓un_u,simprocAttr,hg]
   refine ⟨fun h=>by omega,fun h=>by omega,C2.no (by omega) ?_⟩
   simp only [tZ,↓un_u,simprocAttr,hg,G2_none,not_false_eq_true]
   exact .oA [] []
theorem c_source_place_1 (r:List Int) (k:Int) (hr:0 < r.length):Spc Tryz.prog F_source_place_1 [vIs r,vI k] [] (vI (IntKind.i64.wrap (hd r - k))) []:=by
 have hg:=getD_hd hr
 refine spec_of_ir fn_source_place_1 mixm (by simp) fun e _ hst=>W_start ?_
 unfold ir_source_place_1
 simp only [tZ,↓un_u,simprocAttr,hg,tD]
 refine ⟨by omega,?_⟩
 exact .oA [] []
def plcN (l:List (List Int)) (id:Int):Nat:=bsN (fun y=>decide (IntKind.i64.wrap (hd y - id) < 0)) l (l.length + 1) 0 l.length
end Go.Proofs
set_option linter.unusedSimpArgs false
set_option linter.unusedVariables false
namespace Go.Proofs
open Go Go.TL
open Go.TL.So
theorem c_isNaN_I (n:Int):Spc Tryz.prog F_cmp_isNaN_int [vI n] [] (vB false) []:=by
 refine spec_of_ir fn_cmp_isNaN_int mixm (by simp) fun e _ hst=>W_start ?_
 unfold ir_cmp_isNaN_int
 simp only [tZ,↓un_u,simprocAttr,bne_self_eq_false]
 exact .oA [] []
theorem c_cmp_Less_int (a b:Int):Spc Tryz.prog F_cmp_Less_int [vI a,vI b] [] (vB (ltI a b)) []:=by
 refine spec_of_ir fn_cmp_Less_int mixm (by simp) fun e _ hst=>W_start ?_
 unfold ir_cmp_Less_int
 refine sW ?_
 refine C1.im (c_isNaN_I a) (by rfl) (by rfl) ?_
 refine sW ?_
 refine C2.no (by simp) ?_
 refine sW ?_
 exact .oA [] []
end Go.Proofs
set_option linter.unusedSimpArgs false
set_option linter.unusedVariables false
namespace Go.Proofs
open Go Go.TL
set_option maxRecDepth 4000
set_option maxHeartbeats 8000000
def idOk (n:Int):Prop:=-9223372036854775808≤n∧n < 9223372036854775808
structure RwId (l:List (List Int)):Prop where
 asc:AscR l
 pos:∀ r∈l,0 < r.length
 ids:∀ r∈l,1≤hd r∧hd r≤1048575
 len:l.length≤1000
theorem wrap_sub {a k:Int} (ha:1≤a∧a≤1048575) (hk:idOk k):(IntKind.i64.wrap (a - k) = 0↔a = k)∧(1≤k→k≤1048575→IntKind.i64.wrap (a - k) = a - k):=by
 unfold idOk at hk
 constructor
 ·rw [IntKind.wrap_i64];omega
 ·intro h1 h2
  exact IntWalk.i64_in _ (by omega)
theorem plc_fnd {l:List (List Int)} {k:Int} (h:RwId l) (hk:1≤k∧k≤1048575):plcN l k = fndN l k:=by
 have hw:∀ r∈l,IntKind.i64.wrap (hd r - k) = hd r - k:=fun r hr=>(wrap_sub (h.ids r hr) ⟨by omega,by omega⟩).2 hk.1 hk.2
 have hp:=List.pairwise_iff_getElem.1 h.asc
 unfold plcN
 rw [bsN_mono (fun i j hi hj hij e=>?_) _ 0 l.length (by omega) (by omega) (Nat.le_refl _) (fun m _ h2=>by omega) (fun m _ h2=>by omega)]
 ·unfold fndN
  have e:∀ {a b:List Int→Bool} {m:List (List Int)},(∀ y∈m,a y = b y)→m.findIdx a = m.findIdx b:=by
   intro a b m
   induction m with
   | nil=>intro _;rfl
   | cons x m ih=>
     intro h
     rw [List.findIdx_cons,List.findIdx_cons,h x (by simp),ih fun y hy=>h y (List.mem_cons_of_mem _ hy)]
  refine e fun y hy=>?_
  rw [hw y hy]
  unfold cmpK
  by_cases c:hd y - k < 0
  ·rw [decide_eq_true c,if_pos (by omega)];rfl
  ·rw [decide_eq_false c,if_neg (by omega)]
   split <;> rfl
 ·have h1:=hp i j hi hj hij
  rw [hw _ (List.getElem_mem hj)] at e
  rw [hw _ (List.getElem_mem hi)]
  have:=of_decide_eq_true e
  exact decide_eq_true (by omega)
theorem hasK_ids {l:List (List Int)} {k:Int} (h:∀ r∈l,1≤hd r∧hd r≤1048575) (hk:hasK l k = true):1≤k∧k≤1048575:=by
 obtain ⟨r,hr,e⟩:=List.any_eq_true.1 hk
 have:=h r hr
 have e:hd r = k:=by simpa using e
 omega
theorem plc_hit {l:List (List Int)} {k:Int} (h:RwId l) (hk:idOk k):hitB (fun y=>IntKind.i64.wrap (hd y - k)) l[plcN l k]? = hasK l k:=by
 have hq:∀ y,l[plcN l k]? = some y→(IntKind.i64.wrap (hd y - k) == 0) = (hd y == k):=fun y hy=>by
  have:=(wrap_sub (h.ids y (List.mem_of_getElem? hy)) hk).1
  rw [Bool.eq_iff_iff,beq_iff_eq,beq_iff_eq]
  exact this
 cases hh:hasK l k with
 | true=>
   have hr:=hasK_ids h.ids hh
   have hf:=plc_fnd h hr
   obtain ⟨hj,e⟩:=fndN_at h.asc hh
   rw [← hf] at hj
   rw [List.getElem?_eq_getElem hj]
   have h2:=hq _ (List.getElem?_eq_getElem hj)
   dsimp only [hitB]
   rw [h2]
   have:=List.find?_some e
   simp only [← hf,beq_iff_eq] at this
   rw [this]
   simp
 | false=>
   cases e:l[plcN l k]? with
   | none=>rfl
   | some y=>
     dsimp only [hitB]
     rw [hq y e]
     have:=List.any_eq_false.1 hh y (List.mem_of_getElem? e)
     simpa using this
theorem c_source_place (s:Src) (k:Int) (h:RwId s.rows) (hk:idOk k):Spc Tryz.prog F_source_place [srcT s,vI k] [] (.tup [vI (plcN s.rows k),vB (hasK s.rows k)]) []:=by
 have hl:=h.len
 have hb:=c_bs_any (fun y=>IntKind.i64.wrap (hd y - k)) k F_source_place_1 s.rows (fun y hy=>c_source_place_1 y k (h.pos y hy)) (by omega)
 have e:=plc_hit h hk
 unfold plcN at e
 rw [e] at hb
 refine spec_of_ir fn_source_place mixm (by simp) fun e _ hst=>W_start ?_
 unfold ir_source_place
 refine sW ?_
 refine C1.im hb (by rfl) (by rfl) ?_
 refine sW ?_
 exact .oA [] []
open So
theorem c_slices_isNaN_int (n:Int):Spc Tryz.prog F_slices_isNaN_int [vI n] [] (vB false) []:=by
 refine spec_of_ir fn_slices_isNaN_int mixm (by simp) fun e _ hst=>W_start ?_
 unfold ir_slices_isNaN_int
 simp only [tZ,↓un_u,simprocAttr,bne_self_eq_false]
 exact .oA [] []
theorem pickX_u {x y:T}:pickX (some (.v undef)) (some x) (some y) = none:=_root_.id rfl
def insN (l:List Int) (n:Int):Nat:=l.findIdx fun y=>decide (n≤y)
theorem c_slices_BinarySearch_int (l:List Int) (n:Int) (h:l.Pairwise fun a b=>a < b) (hl:l.length < 4611686018427387904):Spc Tryz.prog F_slices_BinarySearch_int [vIs l,vI n] [] (.tup [vI (insN l n),vB (l.contains n)]) []:=by
 have hp:=List.pairwise_iff_getElem.1 h
 refine spec_of_ir fn_slices_BinarySearch_int mixm (by simp) fun e _ hst=>W_start ?_
 unfold ir_slices_BinarySearch_int
 refine sW ?_
 refine W_loopF mixm (α:=Nat×Nat) [7,8] (fun p=>p.1≤p.2∧p.2≤l.length∧(∀ (m:Nat) (h:m < l.length),m < p.1→l[m] < n)∧(∀ (m:Nat) (h:m < l.length),p.2≤m→¬ l[m] < n)) (fun p=>[(7,vI p.1),(8,vI p.2)]) (fun p=>[]) (fun p=>p.2 - p.1) (0,l.length) ?_ ?_ fun p hp=>?_
 ·exact ⟨by simp,by simp,fun m h h2=>absurd h2 (by simp),fun m h h2=>absurd h2 (by simp only;omega)⟩
 ·exact .oA [] []
 obtain ⟨i,j⟩:=p
 obtain ⟨h1,h2,h3,h4⟩:=hp
 dsimp only at h1 h2 h3 h4
 simp only [tZ,↓un_u,simprocAttr,decide_eq_true_eq,decide_eq_false_iff_not]
 refine ⟨fun h5=>?_,fun h5=>?_⟩
 ·have hij:i < j:=by omega
  obtain ⟨h,hh,hhi,hhj⟩:∃ h:Nat,h = (i + j) / 2∧i≤h∧h < j:=⟨(i + j) / 2,rfl,by omega,by omega⟩
  have hw1:IntKind.i64.wrap ((i:Int) + (j:Int)) = ((i + j:Nat):Int):=by rw [IntWalk.i64_in _ (by omega)];omega
  have hw2:IntKind.u64.wrap ((i + j:Nat):Int) = ((i + j:Nat):Int):=IntWalk.u64_in _ (by omega)
  have hw3:shrI .u64 ((i + j:Nat):Int) 1 = (h:Int):=by
   simp only [shrI]
   rw [show (min (1:Int).toNat IntKind.u64.bits) = 1 from rfl,Int.fdiv_eq_ediv_of_nonneg _ (by decide)]
   omega
  have hw4:IntKind.i64.wrap (h:Int) = (h:Int):=IntWalk.i64_in _ (by omega)
  have hlt:h < l.length:=by omega
  have hws:=i64_succ (i:=h) (by omega)
  have hcall:=c_cmp_Less_int l[h] n
  simp only [tZ,↓un_u,simprocAttr,hw1,hw2,hw3,hw4,Int.toNat_natCast,getD_mapT hlt]
  refine ⟨by omega,?_⟩
  refine C1.im hcall (by rfl) (by rfl) ?_
  simp only [tZ,↓un_u,simprocAttr,decide_eq_true_eq,decide_eq_false_iff_not,hws,ltI]
  refine ⟨fun h6=>?_,fun h6=>?_⟩
  ·refine ⟨(h + 1,j),⟨by simp only;omega,h2,fun m hm1 hm2=>?_,h4⟩,by simp only;omega,?_⟩
   ·by_cases hmh:m = h
    ·subst hmh;exact h6
    ·have:=hp m h hm1 hlt (by simp only at hm2;omega);omega
   ·exact .oA [] []
  ·refine ⟨(i,h),⟨by simp only;omega,by simp only;omega,h3,fun m hm1 hm2 hm3=>?_⟩,by simp only;omega,?_⟩
   ·by_cases hmh:m = h
    ·subst hmh;exact h6 hm3
    ·have:=hp h m hlt hm1 (by simp only at hm2;omega);omega
   ·exact .oA [] []
 ·have hij:i = j:=by omega
  subst hij
  have hfi:insN l n = i:=by
   unfold insN
   by_cases hil:i < l.length
   ·refine findIdx_at hil ?_ (by have:=h4 i hil (Nat.le_refl _);simp;omega)
    rw [List.any_eq_false]
    intro y hy
    obtain ⟨m,hm1,rfl⟩:=List.getElem_of_mem hy
    rw [List.length_take] at hm1
    rw [List.getElem_take]
    have:=h3 m (by omega) (by omega)
    simp;omega
   ·have:i = l.length:=by omega
    subst this
    rw [List.findIdx_eq_length]
    intro y hy
    obtain ⟨m,hm1,rfl⟩:=List.getElem_of_mem hy
    have:=h3 m hm1 hm1
    simp;omega
  rw [hfi]
  by_cases hil:i < l.length
  ·have hg:decide ((i:Int) < (l.length:Int)) = true:=by simp;omega
   have hct:l.contains n = (l[i] == n):=by
    rw [Bool.eq_iff_iff,List.contains_iff_mem,beq_iff_eq]
    constructor
    ·intro hm
     obtain ⟨m,hm1,rfl⟩:=List.getElem_of_mem hm
     by_cases c1:m < i
     ·have:=h3 m hm1 c1;omega
     ·by_cases c2:i < m
      ·have:=hp i m hil hm1 c2
       have:=h4 i hil (Nat.le_refl _)
       omega
      ·have:i = m:=by omega
       subst this;rfl
    ·intro e;rw [← e];exact List.getElem_mem hil
   rw [hct]
   have hnn:=c_slices_isNaN_int l[i]
   simp only [tZ,↓un_u,simprocAttr,hg,Int.toNat_natCast,getD_mapT hil]
   refine ⟨fun _=>by omega,fun _=>by omega,?_⟩
   refine C2.im (fun _=>hnn) (fun _=>rfl) (by rfl) ?_
   refine sW ?_
   refine C2.im (fun _=>c_slices_isNaN_int n) (fun _=>rfl) (by rfl) ?_
   refine sW ?_
   exact .oA [] []
  ·have hg:decide ((i:Int) < (l.length:Int)) = false:=by simp;omega
   have hct:l.contains n = false:=by
    cases e:l.contains n with
    | false=>rfl
    | true=>
      obtain ⟨m,hm1,rfl⟩:=List.getElem_of_mem (List.contains_iff_mem.1 e)
      have:=h3 m hm1 (by omega)
      omega
   rw [hct]
   have hj:(l.map vI).getD i T.junk = T.junk:=by rw [List.getD_eq_getElem?_getD,List.getElem?_eq_none (by rw [List.length_map];omega)];rfl
   simp only [tZ,↓un_u,simprocAttr,hg,Int.toNat_natCast,hj]
   refine ⟨fun h=>by omega,by omega,?_⟩
   simp only [tZ,↓un_u,simprocAttr,hg,labE_u]
   refine C2.no (fun h=>h) ?_
   simp only [tZ,↓un_u,simprocAttr,hg,labE_u]
   refine C2.no (fun h=>h) ?_
   simp only [tZ,↓un_u,simprocAttr,hg,labE_u,pickX_u,G2_none,not_false_eq_true,true_and]
   exact .oA [] []
end Go.Proofs
set_option linter.unusedSimpArgs false
set_option linter.unusedVariables false
namespace Go.Proofs
open Go Go.TL
set_option maxRecDepth 4000
set_option maxHeartbeats 8000000
theorem srcB_no {s:Src} (h:SrcOk s→False):srcB s = false:=by
 cases e:srcB s with
 | false=>rfl
 | true=>exact (h (srcB_ok.1 e)).elim
theorem c_source_Valid (s:Src) (hn:s.sch.cols.length < 4611686018427387904) (hl:s.sch.lists.length < 4611686018427387904) (hr:∀ r∈s.rows,r.length < 4611686018427387904):Spc Tryz.prog F_source_Valid [srcT s] [] (vB (srcB s)) []:=by
 have hC:=c_schema_Check s.sch hn hl
 refine spec_of_ir fn_source_Valid mixm (by simp) fun e _ hst=>W_start ?_
 unfold ir_source_Valid
 refine sW ?_
 refine C1.im hC (by rfl) (by rfl) ?_
 simp only [tZ,↓un_u,simprocAttr,tD,bne_iff_ne,bne_eq_false_iff_eq]
 refine ⟨fun h=>?_,fun h=>?_⟩
 ·rw [srcB_no fun k=>by have h1:=k.sch;have h2:=k.nr;have h3:=k.ng;have h4:=k.ver;omega]
  exact .oA [] []
 refine W_loopF mixm (α:=Nat) [38] (fun i=>i≤s.gone.length∧∀ j,j < i→(1≤s.gone.getD j 0∧s.gone.getD j 0≤1048575)∧asc2 s.gone j = true) (fun i=>[(38,vI i)]) (fun i=>[(4096,.arr 5 [srcT s] false)]) (fun i=>s.gone.length - i) 0 ⟨by omega,fun j h=>by omega⟩ ?_ fun i hi=>?_
 ·exact .oA [(4096,some 4096)] []
 obtain ⟨i1,i2⟩:=hi
 refine sD ?_
 refine ⟨fun h2=>?_,fun h2=>?_⟩
 ·have hi2:i < s.gone.length:=by omega
  have hwi:=i64_succ (i:=i) (by omega)
  have hg:s.gone.getD i 0 = s.gone[i]:=getD_get hi2
  obtain ⟨k,hk1,hk2,hk3⟩:∃ k:Nat,(IntKind.i64.wrap ((i:Int) - 1)).toNat = k∧k < s.gone.length∧(i = 0∧k = 0∨0 < i∧k + 1 = i∧IntKind.i64.wrap ((i:Int) - 1) = k):=by
   rcases Nat.eq_zero_or_pos i with h0 | h0
   ·subst h0
    exact ⟨0,by decide,hi2,.inl ⟨rfl,rfl⟩⟩
   ·have e:=i64_pred h0 (show i < 4611686018427387904 by omega)
    exact ⟨i - 1,by rw [e];omega,by omega,.inr ⟨h0,by omega,e⟩⟩
  have hgq:s.gone.getD k 0 = s.gone[k]:=getD_get hk2
  simp only [tZ,↓un_u,simprocAttr,Int.toNat_natCast,getD_mapT hi2,hk1,getD_mapT hk2,hwi,gt_iff_lt,tD]
  refine ⟨by omega,fun _=>by omega,fun h3=>?_,fun h3=>?_⟩
  ·rw [srcB_no fun w=>by
    have h4:=w.gone _ (List.getElem_mem hi2)
    rcases hk3 with ⟨h5,_⟩ | ⟨h5,h6,_⟩
    ·omega
    ·have h7:=List.pairwise_iff_getElem.1 w.gasc k i hk2 hi2 (by omega)
     omega]
   exact .oA [] []
  ·refine ⟨i + 1,⟨by omega,fun j hj=>?_⟩,by omega,?_⟩
   ·by_cases e:j = i
    ·subst e
     rw [hg]
     refine ⟨by omega,?_⟩
     unfold asc2
     rw [Bool.or_eq_true,decide_eq_true_eq,decide_eq_true_eq]
     rcases hk3 with ⟨h5,_⟩ | ⟨h5,h6,_⟩
     ·exact .inl h5
     ·rw [hg,show j - 1 = k by omega,hgq]
      omega
    ·exact i2 j (by omega)
   ·exact .oA [(4096,some 4096)] []
 have hil:i = s.gone.length:=by omega
 subst hil
 have hgasc:s.gone.Pairwise fun a b=>a < b:=by
  refine pw_of (f:=fun x:Int=>x) fun i h0 hi=>?_
  have:=(i2 i hi).2
  unfold asc2 at this
  simp only [Bool.or_eq_true,decide_eq_true_eq] at this
  exact this.resolve_left (by omega)
 have hgin:∀ g∈s.gone,1≤g∧g≤1048575:=fun g hg=>by
  obtain ⟨j,hj,rfl⟩:=List.getElem_of_mem hg
  have:=(i2 j hj).1
  rwa [show s.gone.getD j 0 = s.gone[j] from getD_get hj] at this
 have h0:schE s.sch = 0:=by omega
 have hok:=schE_ok h0
 have hnc:=hok.nc
 refine W_loopF mixm (α:=Nat) [67] (fun i=>i≤s.rows.length∧∀ j,j < i→rowE s.sch (s.rows.getD j default) = 0∧(0 < j→hd (s.rows.getD (j - 1) default) < hd (s.rows.getD j default))∧s.gone.contains (hd (s.rows.getD j default)) = false) (fun i=>[(67,vI i)]) (fun i=>[(4096,.arr 5 [srcT s] false)]) (fun i=>s.rows.length - i) 0 ⟨by omega,fun j h=>by omega⟩ ?_ fun i hi=>?_
 ·exact .oA [(4096,some 4096)] []
 obtain ⟨j1,j2⟩:=hi
 refine sD ?_
 refine ⟨fun h2=>?_,fun h2=>?_⟩
 ·have hi2:i < s.rows.length:=by omega
  have hwi:=i64_succ (i:=i) (by omega)
  have hg:s.rows.getD i default = s.rows[i]:=getD_get hi2
  have hF:=c_schema_Fits s.sch h0 s.rows[i] (hr _ (List.getElem_mem hi2))
  have hB:=c_slices_BinarySearch_int s.gone (hd s.rows[i]) hgasc (by omega)
  simp only [tZ,↓un_u,simprocAttr,Int.toNat_natCast,getD_mapT hi2]
  refine ⟨by omega,?_⟩
  obtain ⟨k,hk1,hk2,hk3⟩:∃ k:Nat,(IntKind.i64.wrap ((i:Int) - 1)).toNat = k∧k < s.rows.length∧(i = 0∧k = 0∨0 < i∧k + 1 = i∧IntKind.i64.wrap ((i:Int) - 1) = k):=by
   rcases Nat.eq_zero_or_pos i with h0 | h0
   ·subst h0
    exact ⟨0,by decide,hi2,.inl ⟨rfl,rfl⟩⟩
   ·have e:=i64_pred h0 (show i < 4611686018427387904 by omega)
    exact ⟨i - 1,by rw [e];omega,by omega,.inr ⟨h0,by omega,e⟩⟩
  by_cases hp:0 < s.rows[i].length
  ·have hgi:=getD_hd hp
   have hgk:s.rows.getD k default = s.rows[k]:=getD_get hk2
   have hpk:0 < s.rows[k].length:=by
    rcases hk3 with ⟨rfl,rfl⟩ | ⟨h5,h6,_⟩
    ·exact hp
    ·have:=(j2 k (by omega)).1
     rw [hgk] at this
     exact row_pos this
   have hgi2:=getD_hd hpk
   refine C1.im hF (by rfl) (by rfl) ?_
   simp only [tZ,↓un_u,simprocAttr,Int.toNat_natCast,hk1,getD_mapT hk2,hgi,hgi2,tD,gt_iff_lt,Bool.not_eq_true',Bool.not_eq_false',beq_iff_eq,beq_eq_false_iff_ne]
   refine ⟨fun _=>by omega,fun _=>by omega,fun _=>by omega,by kernel_rfl,fun h3=>?_,fun h3=>?_⟩
   ·rw [srcB_no fun w=>by
     have h4:=w.rows _ (List.getElem_mem hi2)
     rcases hk3 with ⟨h5,_⟩ | ⟨h5,h6,_⟩
     ·omega
     ·have h7:=List.pairwise_iff_getElem.1 w.asc k i hk2 hi2 (by omega)
      omega]
    exact .oA [] []
   have hE:rowE s.sch s.rows[i] = 0:=h3.1
   refine ⟨by omega,?_⟩
   refine C1.im hB (by rfl) (by rfl) ?_
   refine sW ?_
   refine ⟨by kernel_rfl,fun h8=>?_,fun h8=>?_⟩
   ·rw [srcB_no fun w=>by
     have h4:=(w.gone _ (List.contains_iff_mem.1 h8)).2.2
     have h5:=findR_neg.1 h4 _ (List.getElem_mem hi2)
     rw [atR_ok hE] at h5
     simp at h5]
    exact .oA [] []
   ·simp only [tZ,↓un_u,simprocAttr,hwi]
    refine ⟨i + 1,⟨by omega,fun j hj=>?_⟩,by omega,?_⟩
    ·by_cases e:j = i
     ·subst e
      rw [hg]
      refine ⟨hE,fun h0=>?_,h8⟩
      rcases hk3 with ⟨h5,_⟩ | ⟨h5,h6,_⟩
      ·omega
      ·rw [show j - 1 = k by omega,hgk]
       omega
     ·exact j2 j (by omega)
    ·exact .oA [(4096,some 4096)] []
  ·have hv:(rowE s.sch s.rows[i] == 0) = false:=beq_eq_false_iff_ne.2 fun e=>hp (row_pos e)
   have hn:s.rows[i] = []:=List.length_eq_zero_iff.1 (by omega)
   rw [hv,hn] at hF
   rw [hn]
   refine C1.im hF (by rfl) (by rfl) ?_
   simp only [tZ,↓un_u,simprocAttr,Int.toNat_natCast,hk1,getD_mapT hk2,labE_u,pickX_u,G2_none,not_false_eq_true,true_and]
   refine ⟨by kernel_rfl,?_⟩
   rw [srcB_no fun w=>hp (row_pos (w.rows _ (List.getElem_mem hi2)))]
   exact .oA [] []
 ·have hil:i = s.rows.length:=by omega
  subst hil
  have hk:SrcOk s:=by
   refine ⟨h0,by omega,by omega,by omega,fun r hr=>?_,?_,fun g hg=>?_,hgasc⟩
   ·obtain ⟨j,hj,rfl⟩:=List.getElem_of_mem hr
    have:=(j2 j hj).1
    rwa [show s.rows.getD j default = s.rows[j] from getD_get hj] at this
   ·exact pw_of (f:=hd) fun i h0 hi=>(j2 i hi).2.1 h0
   ·obtain ⟨g1,g2⟩:=hgin g hg
    refine ⟨g1,g2,findR_neg.2 fun r hr=>?_⟩
    obtain ⟨j,hj,rfl⟩:=List.getElem_of_mem hr
    have h4:=j2 j hj
    rw [show s.rows.getD j default = s.rows[j] from getD_get hj] at h4
    rw [atR_ok h4.1]
    cases e:hd s.rows[j] == g with
    | false=>rfl
    | true=>
      rw [beq_iff_eq] at e
      rw [e,List.contains_iff_mem.2 hg] at h4
      cases h4.2.2
  rw [srcB_ok.2 hk]
  exact .oA [] []
end Go.Proofs
set_option linter.unusedSimpArgs false
set_option linter.unusedVariables false
namespace Go.Proofs
open Go Go.TL
set_option maxRecDepth 4000
set_option maxHeartbeats 8000000
open So
end Go.Proofs
set_option linter.unusedSimpArgs false
set_option linter.unusedVariables false
namespace Go.Proofs
open Go Go.TL
set_option maxRecDepth 4000
set_option maxHeartbeats 8000000
open So
def pinR (l:List (List Int)) (r:List Int):List (List Int):=if hasK l (hd r) = true then l else l.take (fndN l (hd r)) ++ r :: l.drop (fndN l (hd r))
theorem rowK_hd {l:List (List Int)} {k:Int} {r:List Int} (h:rowK l k = some r):hd r = k∧r∈l:=by
 have h1:=List.find?_some h
 exact ⟨by simpa using h1,List.mem_of_find?_eq_some h⟩
theorem hasK_iff {l:List (List Int)} {k:Int}:hasK l k = true↔∃ r∈l,hd r = k:=by
 unfold hasK
 rw [List.any_eq_true]
 simp
theorem fndN_take {l:List (List Int)} {k:Int} {x:List Int} (h:x∈l.take (fndN l k)):hd x < k:=by
 obtain ⟨i,hi,rfl⟩:=List.getElem_of_mem h
 rw [List.length_take] at hi
 rw [List.getElem_take]
 have:=List.not_of_lt_findIdx (show i < fndN l k by omega)
 simp [cmpK] at this
 grind
theorem fndN_drop {l:List (List Int)} {k:Int} {x:List Int} (ha:AscR l) (h:x∈l.drop (fndN l k)):k≤hd x:=by
 obtain ⟨i,hi,rfl⟩:=List.getElem_of_mem h
 rw [List.length_drop] at hi
 rw [List.getElem_drop]
 have h1:fndN l k < l.length:=by omega
 have h2:=List.findIdx_getElem (p:=fun y=>decide (cmpK k y≥0)) (xs:=l) (w:=h1)
 have h3:cmpK k l[fndN l k]≥0:=of_decide_eq_true h2
 have h4:k≤hd l[fndN l k]:=by
  unfold cmpK at h3
  grind
 rcases Nat.eq_zero_or_pos i with h5 | h5
 ·subst h5
  exact h4
 ·have:=List.pairwise_iff_getElem.1 ha (fndN l k) (fndN l k + i) h1 (by omega) (by omega)
  omega
theorem pinR_ok {l:List (List Int)} {r:List Int} (ha:AscR l):AscR (pinR l r)∧∀ x,x∈pinR l r↔x∈l∨(x = r∧hasK l (hd r) = false):=by
 unfold pinR
 cases h:hasK l (hd r) with
 | true=>exact ⟨by rw [if_pos rfl];exact ha,fun x=>by simp⟩
 | false=>
   rw [if_neg (by simp)]
   have hlt:∀ x∈l.drop (fndN l (hd r)),hd r < hd x:=fun x hx=>by
    have h1:=fndN_drop ha hx
    have h2:hd x≠hd r:=fun e=>by
     rw [hasK_iff.2 ⟨x,List.mem_of_mem_drop hx,e⟩] at h
     cases h
    omega
   have ha2:=ha
   rw [← List.take_append_drop (fndN l (hd r)) l] at ha2
   obtain ⟨p1,p2,p3⟩:=List.pairwise_append.1 ha2
   refine ⟨List.pairwise_append.2 ⟨p1,List.pairwise_cons.2 ⟨fun x hx=>hlt x hx,p2⟩,fun x hx y hy=>?_⟩,fun x=>?_⟩
   ·rcases List.mem_cons.1 hy with rfl | hy
    ·exact fndN_take hx
    ·exact p3 x hx y hy
   ·have:=List.mem_append (s:=l.take (fndN l (hd r))) (t:=l.drop (fndN l (hd r))) (a:=x)
    rw [List.take_append_drop] at this
    rw [List.mem_append,List.mem_cons,this]
    simp
    grind
end Go.Proofs
set_option linter.unusedSimpArgs false
set_option linter.unusedVariables false
namespace Go.Proofs
open Go Go.TL
set_option maxRecDepth 4000
set_option maxHeartbeats 8000000
open So
theorem c_slices_Insert_Lint (l:List (List Int)) (x:(List Int)) (i:Nat) (hi:i≤l.length) (hl:l.length < 1000000000000) :
 Spc Tryz.prog F_slices_Insert_Lint [.vw 0 l.length 0 l.length,vI i,.sl 1 [vIs x]] [(0,.arr 1 (l.map vIs) false)] (.asl 1 (l.length + 1)) [(0,.dead),(1,.arr 1 ((l.take i ++ x :: l.drop i).map vIs) false)]:=by
 refine spec_of_cut [7,8,10] fn_slices_Insert_Lint mixm (by simp) fun e _ hst=>W_start ?_
 unfold ir_slices_Insert_Lint
 simp only [cutAt,List.contains_cons,List.contains_nil,Nat.reduceBEq,Bool.or_false,Bool.or_true,Bool.true_or,Bool.false_or,cond_true,cond_false]
 simp only [tl,tl2,tl4,↓un_u,isCallR,entX,argFr,ret,retI,retB,intT,unT,endR,ressR,resR,tupT,bslR,boxR,lenAll,↓reduceIte,Nat.reduceEqDiff,Nat.reduceAdd,Nat.reduceMul,Nat.reduceLT,Nat.reduceLeDiff,reduceCtorEq,Int.reduceLE,Int.reduceLT,ne_eq,Int.reduceEq,not_false_eq_true,decide_true,decide_false,Int.reduceToNat,tl3,Int.reduceBNe,Int.reduceBEq,rmK,rm1,not_true_eq_false,List.drop_zero,List.take_of_length_le (show (l.map vIs).length≤l.length by simp),show (((1:Nat):Int) == 0) = false from rfl]
 have e1:(i:Int).toNat = i:=Int.toNat_natCast _
 refine ⟨by omega,fun h=>?_,fun h=>?_⟩
 ·have h2:i = l.length:=by have:=beq_iff_eq.1 h;omega
  subst h2
  refine W_le _ _ (Le.cut 0 5 l.length (by rfl) (by rfl) (by simp)) ?_
  simp only [cutFr,cutSt,cut2,cut1,cut0]
  simp only [tl,tl2,tl4,↓un_u,isCallR,entX,argFr,ret,retI,retB,intT,unT,endR,ressR,resR,tupT,bslR,boxR,lenAll,↓reduceIte,Nat.reduceEqDiff,Nat.reduceAdd,Nat.reduceMul,Nat.reduceLT,Nat.reduceLeDiff,reduceCtorEq,Int.reduceLE,Int.reduceLT,ne_eq,Int.reduceEq,not_false_eq_true,decide_true,decide_false,Int.reduceToNat,tl3,Int.reduceBNe,Int.reduceBEq,rmK,rm1,not_true_eq_false,List.length_map,List.take_of_length_le (show (l.map vIs).length≤l.length by simp)]
  refine ⟨by omega,?_⟩
  refine .of [(0,some 0),(1,some 5)] [] rfl (by first | rfl | (rw [hst];rfl)) ?_ ?_
  all_goals (try simp only [ltSto,ltO2,ltO1,ltAs,ltA,ltC,ltC0,ltC0s,ltCs,ltT,ltFr,ltS,wrOk,wrO,TL.get,hasFr,↓reduceIte,Nat.reduceEqDiff,reduceCtorEq,Option.getD_some,Option.isSome_some,List.length_map,List.length_append,List.length_cons,List.length_nil,List.append_nil,List.mem_singleton,List.mem_cons,List.not_mem_nil,and_true,true_and,and_self,imp_self,forall_const,false_implies,implies_true,true_implies,or_false,Bool.false_eq_true,Bool.true_eq_false,ImXs_nil,true_or,or_true,false_or,false_and,and_false,rmK,rm1,List.map_append,List.map_cons,List.map_nil,List.cons_append,List.nil_append,List.take_length,List.drop_length])
  all_goals (try (repeat' (first | exact ltXs_nil | (apply ltXs_map;intro _;exact ⟨rfl,rfl⟩) | (apply imXs_map;intro _;exact ⟨rfl,rfl⟩) | with_reducible apply imXs_append | with_reducible refine imXs_cons ⟨rfl,rfl⟩ ?_ | exact imXs_nil | with_reducible apply ltXs_append | with_reducible refine ltXs_cons ⟨rfl,rfl,?_⟩ ?_ | with_reducible apply And.intro | exact ltCs_im rfl | exact ltCs_im (by assumption) | (refine ⟨⟨?_,rfl,?_,rfl,?_⟩,trivial⟩ <;> first | (simp;done) | (apply imXs_map;intro _;exact ⟨rfl,rfl⟩)) | trivial | rfl | (rw [i64_succ (by omega)]) | omega)))
 have h2:i < l.length:=by have:=beq_eq_false_iff_ne.1 h;omega
 refine W_cap 0 (by rfl) (by rfl) fun c hc1 hc2=>?_
 simp only [capFr,capSt,capVw]
 rw [List.length_map] at hc1
 have hw:IntKind.i64.wrap ((l.length:Int) + ((1:Nat):Int)) = ((l.length + 1:Nat):Int):=by rw [IntWalk.i64_in _ (by omega)];omega
 have hw2:IntKind.i64.wrap (((l.length + 1:Nat):Int) - (i:Int)) = ((l.length + 1 - i:Nat):Int):=by rw [IntWalk.i64_in _ (by omega)];omega
 have hw3:IntKind.i64.wrap ((i:Int) + ((1:Nat):Int)) = ((i + 1:Nat):Int):=by rw [IntWalk.i64_in _ (by omega)];omega
 have e2:((l.length + 1:Nat):Int).toNat = l.length + 1:=Int.toNat_natCast _
 have e3:((i + 1:Nat):Int).toNat = i + 1:=Int.toNat_natCast _
 have e4:((l.length + 1 - i:Nat):Int).toNat = l.length + 1 - i:=Int.toNat_natCast _
 have e5:((c:Nat):Int).toNat = c:=Int.toNat_natCast _
 obtain ⟨J,hJ⟩:∃ J,J = List.replicate (c - l.length) (junkT 1):=⟨_,rfl⟩
 have hJl:J.length = c - l.length:=by rw [hJ,List.length_replicate]
 simp only [List.length_map,← hJ]
 simp only [tl,tl2,tl4,↓un_u,isCallR,entX,argFr,ret,retI,retB,intT,unT,endR,ressR,resR,tupT,bslR,boxR,lenAll,↓reduceIte,Nat.reduceEqDiff,Nat.reduceAdd,Nat.reduceMul,Nat.reduceLT,Nat.reduceLeDiff,reduceCtorEq,Int.reduceLE,Int.reduceLT,ne_eq,Int.reduceEq,not_false_eq_true,decide_true,decide_false,Int.reduceToNat,tl3,Int.reduceBNe,Int.reduceBEq,rmK,rm1,not_true_eq_false,List.length_map,e1,e2,e3,e4,e5,hw,hw2,hw3,hJl,Nat.sub_zero,Nat.zero_add,List.drop_zero,decide_eq_true_eq,decide_eq_false_iff_not]
 refine ⟨by omega,fun h3=>⟨by omega,by omega,?_⟩,fun h3=>⟨by omega,?_⟩⟩
 ·have h4:c = l.length:=by omega
  subst h4
  have hJ0:J = []:=List.eq_nil_of_length_eq_zero (by rw [hJl];omega)
  clear hJ
  subst hJ0
  have e6:i + (l.length + 1 - i) = l.length + 1:=by omega
  simp only [List.append_nil,← List.map_take,e6]
  have hz:∀ m,ImXs 1 (List.replicate m (.v (.slice none 0 0))):=fun m y hy=>by rw [(List.mem_replicate.1 hy).2];exact ⟨rfl,rfl⟩
  refine W_le [(0,.vw 0 l.length 0 l.length),(1,vI i),(2,.sl 1 [vIs x]),(7,vI (1:Nat)),(9,.vw 40992 (l.length + 1) 0 (l.length + 1))] [(0,.arr 1 (l.map vIs) false),(40992,.arr 1 ((l.take i).map vIs ++ List.replicate (l.length + 1 - i) (.v (.slice none 0 0))) false)] ?_ ?_
  ·refine .of [(0,some 0),(40992,some 40992)] [] rfl (by first | rfl | (rw [hst];rfl)) ?_ ?_
   all_goals (try simp only [ltSto,ltO2,ltO1,ltAs,ltA,ltC,ltC0,ltC0s,ltCs,ltT,ltFr,ltS,wrOk,wrO,TL.get,hasFr,↓reduceIte,Nat.reduceEqDiff,reduceCtorEq,Option.getD_some,Option.isSome_some,List.length_map,List.length_append,List.length_cons,List.length_nil,List.append_nil,List.mem_singleton,List.mem_cons,List.not_mem_nil,and_true,true_and,and_self,imp_self,forall_const,false_implies,implies_true,true_implies,or_false,Bool.false_eq_true,Bool.true_eq_false,ImXs_nil,true_or,or_true,false_or,false_and,and_false,rmK,rm1,List.map_append,List.map_cons,List.map_nil,List.cons_append,List.nil_append])
   all_goals (try (repeat' (first | exact ltXs_nil | (apply ltXs_map;intro _;exact ⟨rfl,rfl⟩) | (apply imXs_map;intro _;exact ⟨rfl,rfl⟩) | with_reducible apply imXs_append | with_reducible refine imXs_cons ⟨rfl,rfl⟩ ?_ | exact imXs_nil | with_reducible apply ltXs_append | with_reducible refine ltXs_cons ⟨rfl,rfl,?_⟩ ?_ | with_reducible apply And.intro | exact ltCs_im rfl | exact ltCs_im (by assumption) | (refine ⟨⟨?_,rfl,?_,rfl,?_⟩,trivial⟩ <;> first | (simp;done) | (apply imXs_map;intro _;exact ⟨rfl,rfl⟩)) | trivial | rfl | (rw [i64_succ (by omega)]) | omega)))
   exact ltXs_refl (hz _)
  have k1:min 1 (l.length + 1 - i) = 1:=by omega
  have k2:min i l.length = i:=by omega
  have k3:min (l.length - i) (l.length + 1 - (i + 1)) = l.length - i:=by omega
  have k4:(1:Nat) + (l.length + 1 - i - 1) = l.length + 1 - i:=by omega
  simp only [tl,tl2,tl4,↓un_u,isCallR,entX,argFr,ret,retI,retB,intT,unT,endR,ressR,resR,tupT,bslR,boxR,lenAll,↓reduceIte,Nat.reduceEqDiff,Nat.reduceAdd,Nat.reduceMul,Nat.reduceLT,Nat.reduceLeDiff,reduceCtorEq,Int.reduceLE,Int.reduceLT,ne_eq,Int.reduceEq,not_false_eq_true,decide_true,decide_false,Int.reduceToNat,tl3,Int.reduceBNe,Int.reduceBEq,rmK,rm1,not_true_eq_false,List.length_map,List.length_append,List.length_replicate,List.length_take,List.length_drop,e1,e2,e3,e4,e5,hw,hw2,hw3,Nat.sub_zero,Nat.zero_add,List.drop_zero,k1,k2,k3,Nat.min_self,e6]
  refine ⟨by omega,by omega,by omega,by omega,by omega,by kernel_rfl,?_⟩
  rw [ins_grow (l.map vIs) ((l.take i).map vIs) (List.replicate (l.length + 1 - i) (.v (.slice none 0 0))) (vIs x) i l.length (by simp) (by simp;omega) (by simp) h2]
  refine .cutv 1 rfl ?_ rfl ?_ ?_
  ·simp only [List.length_append,List.length_drop,List.length_map,List.length_cons,List.length_take];omega
  ·simp only [List.length_append,List.length_drop,List.length_map,List.length_cons,List.length_take];omega
  simp only [cutSt]
  rw [List.take_of_length_le (by simp only [List.length_append,List.length_drop,List.length_map,List.length_cons,List.length_take];omega)]
  simp only [List.map_append,List.map_cons,List.map_drop]
  refine .of [(0,some 0),(1,some 1)] [] rfl (by first | rfl | (rw [hst];rfl)) ?_ ?_
  all_goals (try simp only [ltSto,ltO2,ltO1,ltAs,ltA,ltC,ltC0,ltC0s,ltCs,ltT,ltFr,ltS,wrOk,wrO,TL.get,hasFr,↓reduceIte,Nat.reduceEqDiff,reduceCtorEq,Option.getD_some,Option.isSome_some,List.length_map,List.length_append,List.length_cons,List.length_nil,List.append_nil,List.mem_singleton,List.mem_cons,List.not_mem_nil,and_true,true_and,and_self,imp_self,forall_const,false_implies,implies_true,true_implies,or_false,Bool.false_eq_true,Bool.true_eq_false,ImXs_nil,true_or,or_true,false_or,false_and,and_false,rmK,rm1,List.map_append,List.map_cons,List.map_nil,List.cons_append,List.nil_append])
  all_goals (try (repeat' (first | exact ltXs_nil | (apply ltXs_map;intro _;exact ⟨rfl,rfl⟩) | (apply imXs_map;intro _;exact ⟨rfl,rfl⟩) | with_reducible apply imXs_append | with_reducible refine imXs_cons ⟨rfl,rfl⟩ ?_ | exact imXs_nil | with_reducible apply ltXs_append | with_reducible refine ltXs_cons ⟨rfl,rfl,?_⟩ ?_ | with_reducible apply And.intro | exact ltCs_im rfl | exact ltCs_im (by assumption) | (refine ⟨⟨?_,rfl,?_,rfl,?_⟩,trivial⟩ <;> first | (simp;done) | (apply imXs_map;intro _;exact ⟨rfl,rfl⟩)) | trivial | rfl | (rw [i64_succ (by omega)]) | omega)))
  all_goals (simp only [← List.map_drop,← List.map_take];apply ltXs_map;intro _;exact ⟨rfl,rfl⟩)
 refine ⟨by omega,?_⟩
 refine C1.ovl ovl_slices_overlaps_Lint (by decide) rfl rfl (by rw [List.length_append,List.length_map,hJl];omega) ?_
 have k1:min 1 (l.length + 1 - i) = 1:=by omega
 have k2:l.length + (c - l.length) = c:=by omega
 have k3:min (min (l.length + 1 - i) (c - i)) (l.length + 1 - (i + 1)) = l.length - i:=by omega
 have k4:min (i + 1) c = i + 1:=by omega
 simp only [tl,tl2,tl4,↓un_u,isCallR,entX,argFr,ret,retI,retB,intT,unT,endR,ressR,resR,tupT,bslR,boxR,lenAll,↓reduceIte,Nat.reduceEqDiff,Nat.reduceAdd,Nat.reduceMul,Nat.reduceLT,Nat.reduceLeDiff,reduceCtorEq,Int.reduceLE,Int.reduceLT,ne_eq,Int.reduceEq,not_false_eq_true,decide_true,decide_false,Int.reduceToNat,tl3,Int.reduceBNe,Int.reduceBEq,rmK,rm1,not_true_eq_false,List.length_map,List.length_append,List.length_take,List.length_drop,hJl,e1,e2,e3,e4,e5,hw,hw2,hw3,Nat.sub_zero,Nat.zero_add,List.drop_zero,k1,k2,k3,k4,Nat.min_self]
 refine ⟨by omega,by omega,by omega,by kernel_rfl,by omega,by omega,?_⟩
 rw [ins_room (l.map vIs) J (vIs x) i l.length (by simp) h2]
 have hfl:(List.take i (List.map vIs l) ++ vIs x :: List.drop i (List.map vIs l)).length = l.length + 1:=by
  simp only [List.length_append,List.length_drop,List.length_map,List.length_cons,List.length_take];omega
 refine .cutv 1 rfl ?_ rfl ?_ ?_
 ·rw [List.length_append,hfl,List.length_drop,hJl];omega
 ·rw [List.length_append,hfl,List.length_drop,hJl];omega
 simp only [cutSt]
 rw [List.take_append_of_le_length (by rw [hfl];exact Nat.le_refl _),List.take_of_length_le (by rw [hfl];exact Nat.le_refl _)]
 simp only [List.map_append,List.map_cons,List.map_drop,List.map_take]
 refine .of [(0,some 0),(1,some 1)] [] rfl (by first | rfl | (rw [hst];rfl)) ?_ ?_
 all_goals (try simp only [ltSto,ltO2,ltO1,ltAs,ltA,ltC,ltC0,ltC0s,ltCs,ltT,ltFr,ltS,wrOk,wrO,TL.get,hasFr,↓reduceIte,Nat.reduceEqDiff,reduceCtorEq,Option.getD_some,Option.isSome_some,List.length_map,List.length_append,List.length_cons,List.length_nil,List.append_nil,List.mem_singleton,List.mem_cons,List.not_mem_nil,and_true,true_and,and_self,imp_self,forall_const,false_implies,implies_true,true_implies,or_false,Bool.false_eq_true,Bool.true_eq_false,ImXs_nil,true_or,or_true,false_or,false_and,and_false,rmK,rm1,List.map_append,List.map_cons,List.map_nil,List.cons_append,List.nil_append])
 all_goals (try (repeat' (first | exact ltXs_nil | (apply ltXs_map;intro _;exact ⟨rfl,rfl⟩) | (apply imXs_map;intro _;exact ⟨rfl,rfl⟩) | with_reducible apply imXs_append | with_reducible refine imXs_cons ⟨rfl,rfl⟩ ?_ | exact imXs_nil | with_reducible apply ltXs_append | with_reducible refine ltXs_cons ⟨rfl,rfl,?_⟩ ?_ | with_reducible apply And.intro | exact ltCs_im rfl | exact ltCs_im (by assumption) | (refine ⟨⟨?_,rfl,?_,rfl,?_⟩,trivial⟩ <;> first | (simp;done) | (apply imXs_map;intro _;exact ⟨rfl,rfl⟩)) | trivial | rfl | (rw [i64_succ (by omega)]) | omega)))
 all_goals (simp only [← List.map_drop,← List.map_take];apply ltXs_map;intro _;exact ⟨rfl,rfl⟩)
end Go.Proofs
