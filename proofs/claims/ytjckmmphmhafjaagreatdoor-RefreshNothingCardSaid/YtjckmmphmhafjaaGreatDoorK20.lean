/- A part of the proof: trees of Go values, short forms, contracts. -/
import Derived.WalkKit
import Derived.Still
import Derived.MapKept
import GoSem.Builtin.Cap
import Derived.Laws.Externs
import GoSem.Extern.SlicesOverlaps
import Derived.Carry
import Derived.ProofKit
import Derived.OpenShut
import Derived.HandedShaped
import Derived.Lay
import Derived.LaidLaws
import Derived.MakeChecks
import Derived.SevenTiedAt
import Derived.Test.YtjckmmphmhafjaaGreatDoorChecked
import Derived.Test.YtjckmmphmhafjaaGreatDoorK19
set_option linter.unusedSimpArgs false
set_option linter.unusedVariables false
namespace Go.Proofs
open Go Go.TL
def ordB (l:List (List Int)):Bool:=(List.range l.length).all fun i=>decide (0 < (l.getD i []).length) && (decide (i = 0) || decide (hd (l.getD (i - 1) []) < hd (l.getD i [])))
def hasK (l:List (List Int)) (k:Int):Bool:=l.any fun r=>hd r == k
def rowK (l:List (List Int)) (k:Int):Option (List Int):=l.find? fun r=>hd r == k
def diffG (a b:List (List Int)):List Int:=(a.filter fun r=>!hasK b (hd r)).map hd
def diffR (a b:List (List Int)):List (List Int):=b.filter fun r=>rowK a (hd r) != some r
def appR (a:List (List Int)) (g:List Int) (rs:List (List Int)):List (List Int):=rs.foldl putR (a.filter fun r=>!g.contains (hd r))
theorem asc_uniq {a b:List (List Int)} (ha:AscR a) (hb:AscR b) (h:∀ r,r∈a↔r∈b):a = b:=by
 refine So.srt_uniq (lt:=fun x y=>decide (hd x < hd y)) ⟨fun x y h=>?_,fun x y z h1 h2=>?_⟩ (ha.imp fun h=>decide_eq_true h) (hb.imp fun h=>decide_eq_true h) h
 ·simp only [decide_eq_true_eq] at h
  exact decide_eq_false (by omega)
 ·simp only [decide_eq_false_iff_not] at h1 h2 ⊢
  omega
theorem asc_key {l:List (List Int)} (h:AscR l) {r s:List Int} (hr:r∈l) (hs:s∈l) (e:hd r = hd s):r = s:=by
 obtain ⟨i,hi,rfl⟩:=List.getElem_of_mem hr
 obtain ⟨j,hj,rfl⟩:=List.getElem_of_mem hs
 have hp:=List.pairwise_iff_getElem.1 h
 by_cases h1:i < j
 ·have:=hp i j hi hj h1;omega
 ·by_cases h2:j < i
  ·have:=hp j i hj hi h2;omega
  ·have:i = j:=by omega
   subst this;rfl
theorem rowK_some {l:List (List Int)} (h:AscR l) {r:List Int}:rowK l (hd r) = some r↔r∈l:=by
 constructor
 ·intro e;exact List.mem_of_find?_eq_some e
 ·intro hr
  unfold rowK
  cases e:l.find? (fun s=>hd s == hd r) with
  | none=>
    have:=List.find?_eq_none.1 e r hr
    simp at this
  | some s=>
    have h1:=List.mem_of_find?_eq_some e
    have h2:=List.find?_some e
    rw [asc_key h h1 hr (by simpa using h2)]
theorem putF_ok:∀ (rs l:List (List Int)),AscR l→AscR rs→AscR (rs.foldl putR l)∧∀ r,r∈rs.foldl putR l↔r∈rs∨(r∈l∧∀ q∈rs,hd r≠hd q)
 | [],l,h,_=>⟨h,fun r=>by simp⟩
 | q :: rs,l,h,hr=>by
   obtain ⟨h1,h2⟩:=List.pairwise_cons.1 hr
   obtain ⟨h3,h4⟩:=putF_ok rs (putR l q) (putR_asc h) h2
   refine ⟨h3,fun r=>?_⟩
   rw [List.foldl_cons,h4,putR_mem h,List.mem_cons]
   constructor
   ·rintro (a | ⟨a | ⟨a,b⟩,c⟩)
    ·exact .inl (.inr a)
    ·exact .inl (.inl a)
    ·refine .inr ⟨a,fun x hx=>?_⟩
     rcases List.mem_cons.1 hx with rfl | hx
     ·exact b
     ·exact c x hx
   ·rintro ((a | a) | ⟨a,b⟩)
    ·subst a
     exact .inr ⟨.inl rfl,fun x hx=>by have:=h1 x hx;omega⟩
    ·exact .inl a
    ·exact .inr ⟨.inr ⟨a,b q (by simp)⟩,fun x hx=>b x (List.mem_cons_of_mem _ hx)⟩
theorem app_diff {a b:List (List Int)} (ha:AscR a) (hb:AscR b):appR a (diffG a b) (diffR a b) = b:=by
 have hg:∀ r∈a,(diffG a b).contains (hd r) = true↔hasK b (hd r) = false:=by
  intro r hr
  unfold diffG
  rw [List.contains_iff_mem,List.mem_map]
  constructor
  ·rintro ⟨s,hs,e⟩
   obtain ⟨h1,h2⟩:=List.mem_filter.1 hs
   rw [← e]
   simpa using h2
  ·intro h
   exact ⟨r,List.mem_filter.2 ⟨hr,by rw [h];rfl⟩,rfl⟩
 obtain ⟨h1,h2⟩:=putF_ok (diffR a b) (a.filter fun r=>!(diffG a b).contains (hd r)) (ha.filter _) (hb.filter _)
 refine asc_uniq h1 hb fun r=>?_
 show r∈(diffR a b).foldl putR (a.filter fun r=>!(diffG a b).contains (hd r))↔r∈b
 rw [h2]
 unfold diffR
 constructor
 ·rintro (h | ⟨h,h3⟩)
  ·exact (List.mem_filter.1 h).1
  ·obtain ⟨h4,h5⟩:=List.mem_filter.1 h
   have h6:hasK b (hd r) = true:=by
    cases e:hasK b (hd r) with
    | true=>rfl
    | false=>rw [(hg r h4).2 e] at h5;simp at h5
   obtain ⟨s,hs,e⟩:=List.any_eq_true.1 h6
   have e:hd s = hd r:=by simpa using e
   by_cases e2:rowK a (hd s) = some s
   ·have h7:=(rowK_some ha).1 e2
    rw [asc_key ha h4 h7 e.symm]
    exact hs
   ·exact absurd e.symm (h3 s (List.mem_filter.2 ⟨hs,by simpa using e2⟩))
 ·intro h
  by_cases e:rowK a (hd r) = some r
  ·have h4:=(rowK_some ha).1 e
   refine .inr ⟨List.mem_filter.2 ⟨h4,?_⟩,fun q hq e2=>?_⟩
   ·cases e3:(diffG a b).contains (hd r) with
    | false=>rfl
    | true=>
      have:=(hg r h4).1 e3
      rw [show hasK b (hd r) = true from List.any_eq_true.2 ⟨r,h,by simp⟩] at this
      cases this
   ·obtain ⟨h5,h6⟩:=List.mem_filter.1 hq
    have:=asc_key hb h h5 e2
    subst this
    rw [e] at h6
    simp at h6
  ·exact .inl (List.mem_filter.2 ⟨h,by simpa using e⟩)
theorem diff_self {a:List (List Int)} (ha:AscR a):diffG a a = []∧diffR a a = []:=by
 constructor
 ·unfold diffG
  rw [List.map_eq_nil_iff,List.filter_eq_nil_iff]
  intro r hr
  rw [show hasK a (hd r) = true from List.any_eq_true.2 ⟨r,hr,by simp⟩]
  simp
 ·unfold diffR
  rw [List.filter_eq_nil_iff]
  intro r hr
  rw [(rowK_some ha).2 hr]
  simp
def diffE (a b:Ext):Int:=if ordB a.rows = false∨ordB b.rows = false then 11 else if eqB a.proj b.proj = false∨samePk a.picks b.picks = false then 23 else 0
def diffC (a b:Ext):Chg:=if diffE a b≠0 then ⟨0,[],[]⟩ else ⟨b.ver,diffG a.rows b.rows,diffR a.rows b.rows⟩
def ascI (l:List Int):Bool:=(List.range l.length).all fun i=>asc2 l i
def appE (a:Ext) (c:Chg):Int:=
 if ordB a.rows = false∨ordB c.rows = false∨ascI c.gone = false∨(c.rows.any fun r=>decide (r.length≠a.picks.length + 1)) = true then 11
 else if (c.gone.any fun k=>!hasK a.rows k) = true then 21 else if (c.gone.any fun k=>hasK c.rows k) = true then 10 else 0
def appX (a:Ext) (c:Chg):Ext:=if appE a c≠0 then ⟨⟨#[]⟩,0,[],[]⟩ else ⟨a.proj,c.ver,a.picks,appR a.rows c.gone c.rows⟩
theorem ordB_ok {l:List (List Int)}:ordB l = true↔(∀ r∈l,0 < r.length)∧AscR l:=by
 unfold ordB
 simp only [List.all_eq_true,List.mem_range,Bool.and_eq_true,decide_eq_true_eq,Bool.or_eq_true]
 constructor
 ·intro h
  refine ⟨fun r hr=>?_,pw_of (f:=hd) fun i h0 hi=>((h i hi).2.resolve_left (by omega))⟩
  obtain ⟨i,hi,rfl⟩:=List.getElem_of_mem hr
  have:=(h i hi).1
  rw [getD_get hi] at this
  exact this
 ·intro h i hi
  refine ⟨by rw [getD_get hi];exact h.1 _ (List.getElem_mem hi),?_⟩
  by_cases e:i = 0
  ·exact .inl e
  ·exact .inr (pw_at (f:=hd) h.2 (by omega) hi)
theorem ascI_ok {l:List Int}:ascI l = true↔l.Pairwise fun a b=>a < b:=by
 unfold ascI asc2
 simp only [List.all_eq_true,List.mem_range,decide_eq_true_eq,Bool.or_eq_true]
 constructor
 ·intro h
  exact pw_of (f:=fun x:Int=>x) fun i h0 hi=>((h i hi).resolve_left (by omega))
 ·intro h i hi
  by_cases e:i = 0
  ·exact .inl e
  ·exact .inr (pw_at (f:=fun x:Int=>x) h (by omega) hi)
theorem diffG_asc {a b:List (List Int)} (h:AscR a):(diffG a b).Pairwise fun x y=>x < y:=by
 unfold diffG
 rw [List.pairwise_map]
 exact h.filter _
theorem sub_ord {l m:List (List Int)} (h:ordB l = true) (hs:m.Sublist l):ordB m = true:=by
 obtain ⟨h1,h2⟩:=ordB_ok.1 h
 exact ordB_ok.2 ⟨fun r hr=>h1 r (hs.subset hr),h2.sublist hs⟩
structure ExtOk (x:Ext):Prop where
 ord:ordB x.rows = true
 len:∀ r∈x.rows,r.length = x.picks.length + 1
theorem diff_apply {a b:Ext} (ha:ordB a.rows = true) (hb:ExtOk b) (hp:eqB a.proj b.proj = true) (hk:samePk a.picks b.picks = true) (hl:a.picks.length = b.picks.length) :
 diffE a b = 0∧appE a (diffC a b) = 0∧appX a (diffC a b) = ⟨a.proj,b.ver,a.picks,b.rows⟩:=by
 obtain ⟨a1,a2⟩:=ordB_ok.1 ha
 obtain ⟨b1,b2⟩:=ordB_ok.1 hb.ord
 have e0:diffE a b = 0:=by rw [diffE,if_neg (by rw [ha,hb.ord];simp),if_neg (by rw [hp,hk];simp)]
 have e1:diffC a b = ⟨b.ver,diffG a.rows b.rows,diffR a.rows b.rows⟩:=by rw [diffC,if_neg (by rw [e0];simp)]
 have f1:ordB (diffR a.rows b.rows) = true:=sub_ord hb.ord List.filter_sublist
 have f2:ascI (diffG a.rows b.rows) = true:=ascI_ok.2 (diffG_asc a2)
 have f3:((diffR a.rows b.rows).any fun r=>decide (r.length≠a.picks.length + 1)) = false:=by
  rw [List.any_eq_false]
  intro r hr
  have:=hb.len r (List.mem_filter.1 hr).1
  simp only [decide_eq_true_eq]
  omega
 have f4:((diffG a.rows b.rows).any fun k=>!hasK a.rows k) = false:=by
  rw [List.any_eq_false]
  intro k hk2
  obtain ⟨r,hr,rfl⟩:=List.mem_map.1 hk2
  rw [show hasK a.rows (hd r) = true from List.any_eq_true.2 ⟨r,(List.mem_filter.1 hr).1,by simp⟩]
  simp
 have f5:((diffG a.rows b.rows).any fun k=>hasK (diffR a.rows b.rows) k) = false:=by
  rw [List.any_eq_false]
  intro k hk2 h
  obtain ⟨r,hr,rfl⟩:=List.mem_map.1 hk2
  have h1:=(List.mem_filter.1 hr).2
  obtain ⟨q,hq,e⟩:=List.any_eq_true.1 h
  have:hasK b.rows (hd r) = true:=List.any_eq_true.2 ⟨q,(List.mem_filter.1 hq).1,e⟩
  rw [this] at h1
  simp at h1
 have e2:appE a (diffC a b) = 0:=by
  rw [e1,appE,if_neg (by rw [ha,f1,f2,f3];simp),if_neg (by rw [f4];simp),if_neg (by rw [f5];simp)]
 refine ⟨e0,e2,?_⟩
 rw [appX,if_neg (by rw [e2];simp),e1]
 dsimp only
 rw [app_diff a2 b2]
end Go.Proofs
set_option linter.unusedSimpArgs false
set_option linter.unusedVariables false
namespace Go.Proofs
open Go Go.TL
set_option maxRecDepth 4000
set_option maxHeartbeats 8000000
open So
def RwSm (l:List (List Int)):Prop:=l.length≤1000000∧∀ r∈l,r.length * 8≤140737488355328
structure ExtSm (x:Ext):Prop where
 rows:RwSm x.rows
 picks:x.picks.length * 16≤140737488355328
structure ChgSm (c:Chg):Prop where
 rows:RwSm c.rows
 gone:c.gone.length≤1000000
def ordP (l:List (List Int)) (i:Nat):Bool:=decide (0 < (l.getD i []).length) && (decide (i = 0) || decide (hd (l.getD (i - 1) []) < hd (l.getD i [])))
theorem c_refresh_ordered (l:List (List Int)) (hl:l.length≤1000000):Spc Tryz.prog F_refresh_ordered [vRw l] [] (vB (ordB l)) []:=by
 have hB:ordB l = (List.range l.length).all (ordP l):=rfl
 rw [hB]
 refine spec_of_ir fn_refresh_ordered mixm (by simp) fun e _ hst=>W_start ?_
 unfold ir_refresh_ordered
 refine sW ?_
 refine W_loopF mixm (α:=Nat) [7] (fun i=>i≤l.length∧((List.range i).all (ordP l) = true)) (fun i=>[(7,vI i)]) (fun i=>[]) (fun i=>l.length - i) 0 ⟨by omega,?_⟩ ?_ fun i hi=>?_
 ·rfl
 ·exact .oA [] []
 obtain ⟨i1,i2⟩:=hi
 refine sD ?_
 refine ⟨fun h2=>?_,fun h2=>?_⟩
 ·have hi2:i < l.length:=by omega
  have hwi:=i64_succ (i:=i) (by omega)
  have hpi:l.getD i [] = l[i]:=getD_get hi2
  have hgd:ordP l i = true→(List.range (i + 1)).all (ordP l) = true:=fun k=>by rw [all_succ,i2,k];rfl
  have hP:ordP l i = (decide (0 < l[i].length) && (decide (i = 0) || decide (hd (l.getD (i - 1) []) < hd l[i]))):=by rw [ordP,hpi]
  have hbad:ordP l i = false→(List.range l.length).all (ordP l) = false:=fun k=>all_no hi2 k
  rcases Nat.eq_zero_or_pos l[i].length with hz0 | hz0
  ·have e0:((l[i].length:Int) == 0) = true:=beq_iff_eq.2 (by omega)
   have hgj:(l[i].map vI).getD 0 .junk = .junk:=getD_out (by omega)
   rw [hbad (by rw [hP,decide_eq_false (by omega)];rfl)]
   rcases Nat.eq_zero_or_pos i with hi0 | hi0
   ·subst hi0
    have hz:((0:Nat):Int) = 0:=rfl
    have hz2:(IntKind.i64.wrap (-1)).toNat = 0:=by decide
    simp only [tZ,↓un_u,simprocAttr,e0,Int.toNat_natCast,hz,hz2,getD_mapT hi2,hgj]
    refine ⟨by omega,by kernel_rfl,?_⟩
    exact .oA [] []
   ·obtain ⟨k,rfl⟩:∃ k,i = k + 1:=⟨i - 1,by omega⟩
    have hk3:k < l.length:=by omega
    have e3:=i64_pred (i:=k + 1) (by omega) (by omega)
    rw [Nat.add_sub_cancel] at e3
    have hkp:0 < l[k].length:=by
     have:=List.all_eq_true.1 i2 k (List.mem_range.2 (by omega))
     rw [ordP,getD_get hk3,Bool.and_eq_true,decide_eq_true_eq] at this
     exact this.1
    simp only [tZ,↓un_u,simprocAttr,e0,Int.toNat_natCast,getD_mapT hi2,getD_mapT hk3,e3,hgj,getD_hd hkp]
    refine ⟨by omega,by kernel_rfl,?_⟩
    exact .oA [] []
  ·have e0:((l[i].length:Int) == 0) = false:=beq_eq_false_iff_ne.2 (by omega)
   rw [decide_eq_true hz0,Bool.true_and] at hP
   rcases Nat.eq_zero_or_pos i with hi0 | hi0
   ·subst hi0
    have hz:((0:Nat):Int) = 0:=rfl
    have hz2:(IntKind.i64.wrap (-1)).toNat = 0:=by decide
    have hz3:=i64_succ (i:=0) (by omega)
    rw [hz] at hz3
    simp only [tZ,↓un_u,simprocAttr,e0,Int.toNat_natCast,hz,gt_iff_lt,Int.lt_irrefl,hz2,getD_mapT hi2,getD_hd hz0,hz3]
    refine ⟨by omega,by kernel_rfl,1,⟨by omega,hgd (by rw [hP];rfl)⟩,by omega,?_⟩
    exact .oA [] []
   ·obtain ⟨k,rfl⟩:∃ k,i = k + 1:=⟨i - 1,by omega⟩
    have hk3:k < l.length:=by omega
    have e2:decide (((k + 1:Nat):Int) > 0) = true:=decide_eq_true (by omega)
    have e3:=i64_pred (i:=k + 1) (by omega) (by omega)
    rw [Nat.add_sub_cancel] at e3 hP
    rw [getD_get hk3,decide_eq_false (by omega),Bool.false_or] at hP
    have hkp:0 < l[k].length:=by
     have:=List.all_eq_true.1 i2 k (List.mem_range.2 (by omega))
     rw [ordP,getD_get hk3,Bool.and_eq_true,decide_eq_true_eq] at this
     exact this.1
    simp only [tZ,↓un_u,simprocAttr,e0,Int.toNat_natCast,getD_mapT hi2,getD_mapT hk3,e2,e3,getD_hd hz0,getD_hd hkp,hwi,tD]
    refine ⟨by omega,by omega,by omega,by omega,by kernel_rfl,fun h4=>?_,fun h4=>?_⟩
    ·rw [hbad (by rw [hP];exact decide_eq_false (by omega))]
     exact .oA [] []
    ·refine ⟨k + 2,⟨by omega,hgd (by rw [hP];exact decide_eq_true (by omega))⟩,by omega,?_⟩
     exact .oA [] []
 ·have hil:i = l.length:=by omega
  subst hil
  rw [i2]
  exact .oA [] []
theorem diffG_take (b:List (List Int)) (l:List (List Int)) {i:Nat} (h:i < l.length):diffG (l.take (i + 1)) b = diffG (l.take i) b ++ if hasK b (hd l[i]) = false then [hd l[i]] else []:=by
 unfold diffG
 rw [take_snoc h,List.filter_append,List.map_append,List.filter_cons,List.filter_nil]
 congr 1
 cases hasK b (hd l[i]) <;> rfl
theorem diffR_take (a:List (List Int)) (l:List (List Int)) {i:Nat} (h:i < l.length):diffR a (l.take (i + 1)) = diffR a (l.take i) ++ if rowK a (hd l[i])≠some l[i] then [l[i]] else []:=by
 unfold diffR
 rw [take_snoc h,List.filter_append,List.filter_cons,List.filter_nil]
 congr 1
 by_cases k:rowK a (hd l[i]) = some l[i]
 ·rw [if_neg (by simp [k]),if_neg (by simp [k])]
 ·rw [if_pos (by simpa using k),if_pos k]
theorem diffG_len (b l:List (List Int)):(diffG l b).length≤l.length:=by
 unfold diffG
 rw [List.length_map];exact List.length_filter_le _ _
theorem diffR_len (a l:List (List Int)):(diffR a l).length≤l.length:=List.length_filter_le _ _
end Go.Proofs
set_option linter.unusedSimpArgs false
set_option linter.unusedVariables false
namespace Go.Proofs
open Go Go.TL
set_option maxHeartbeats 8000000
open So
theorem c_slices_Clone_int (l:List Int) (hl:l.length * 8≤140737488355328):Spc Tryz.prog F_slices_Clone_int [vIs l] [] (vIs l) []:=by
 refine spec_of_ir fn_slices_Clone_int mixm (by simp) fun e _ hst=>W_start ?_
 unfold ir_slices_Clone_int
 refine sW ?_
 refine ⟨fun h=>?_,?_⟩
 ·have:l = []:=by
   simpa using h
  subst this
  exact .oA [] []
 ·refine ⟨by omega,?_⟩
  exact .oA [] [16384]
theorem c_slices_Clone_Pick (l:List Pk) (hl:l.length * 16≤140737488355328):Spc Tryz.prog F_slices_Clone_Pick [vPs l] [] (vPs l) []:=by
 refine spec_of_ir fn_slices_Clone_Pick mixm (by simp) fun e _ hst=>W_start ?_
 unfold ir_slices_Clone_Pick
 refine sW ?_
 refine ⟨fun h=>?_,?_⟩
 ·have:l = []:=by
   simpa using h
  subst this
  exact .oA [] []
 ·refine ⟨by omega,?_⟩
  exact .oA [] [16384]
theorem c_slices_Equal_int (a b:List Int) (ha:a.length < 4611686018427387904):Spc Tryz.prog F_slices_Equal_int [vIs a,vIs b] [] (vB (eqRow a b)) []:=by
 refine spec_of_ir fn_slices_Equal_int mixm (by simp) fun e _ hst=>W_start ?_
 unfold ir_slices_Equal_int
 simp only [tZ,↓un_u,simprocAttr,bne_iff_ne,bne_eq_false_iff_eq]
 refine ⟨fun h=>?_,fun h=>?_⟩
 ·rw [eqRow,sameL_ne (by omega)]
  exact .oA [] []
 have hl:a.length = b.length:=by omega
 refine W_loopF mixm (α:=Nat) [13] (fun i=>i≤a.length∧(eqRow (a.take i) (b.take i) = true)) (fun i=>[(13,vI i)]) (fun i=>[]) (fun i=>a.length - i) 0 ⟨by omega,?_⟩ ?_ fun i hi=>?_
 ·rfl
 ·exact .oA [] []
 simp only [tZ,↓un_u,simprocAttr,decide_eq_true_eq,decide_eq_false_iff_not]
 refine ⟨fun h=>?_,fun h=>?_⟩
 ·have hib:i < b.length:=by omega
  have hi2:i < a.length:=by omega
  have hwi:=i64_succ (i:=i) (by omega)
  simp only [tZ,↓un_u,simprocAttr,Int.toNat_natCast,getD_mapT hi2,hwi,getD_mapT hib]
  refine ⟨by omega,by omega,by kernel_rfl,fun h3=>?_,fun h3=>⟨i + 1,⟨by omega,?_⟩,by omega,?_⟩⟩
  ·rw [eqRow,sameL_false (i:=i) hl (by omega) (by simpa using h3)]
   exact .oA [] []
  ·rw [eqRow,sameL_snoc hi2 hib,← eqRow,hi.2]
   simpa using h3
  ·exact .oA [] []
 ·have hi2:i = a.length:=by omega
  subst hi2
  have h3:=hi.2
  rw [List.take_length,List.take_of_length_le (by omega)] at h3
  rw [h3]
  exact .oA [] []
theorem c_slices_Equal_Pick (a b:List Pk) (ha:a.length < 4611686018427387904):Spc Tryz.prog F_slices_Equal_Pick [vPs a,vPs b] [] (vB (samePk a b)) []:=by
 refine spec_of_ir fn_slices_Equal_Pick mixm (by simp) fun e _ hst=>W_start ?_
 unfold ir_slices_Equal_Pick
 simp only [tZ,↓un_u,simprocAttr,bne_iff_ne,bne_eq_false_iff_eq]
 refine ⟨fun h=>?_,fun h=>?_⟩
 ·rw [samePk,sameL_ne (by omega)]
  exact .oA [] []
 have hl:a.length = b.length:=by omega
 refine W_loopF mixm (α:=Nat) [13] (fun i=>i≤a.length∧(samePk (a.take i) (b.take i) = true)) (fun i=>[(13,vI i)]) (fun i=>[]) (fun i=>a.length - i) 0 ⟨by omega,?_⟩ ?_ fun i hi=>?_
 ·rfl
 ·exact .oA [] []
 simp only [tZ,↓un_u,simprocAttr,decide_eq_true_eq,decide_eq_false_iff_not]
 refine ⟨fun h=>?_,fun h=>?_⟩
 ·have hib:i < b.length:=by omega
  have hi2:i < a.length:=by omega
  have hwi:=i64_succ (i:=i) (by omega)
  simp only [tZ,↓un_u,simprocAttr,Int.toNat_natCast,getD_mapT hi2,hwi,getD_mapT hib]
  refine ⟨by omega,by omega,by kernel_rfl,fun h3=>?_,fun h3=>⟨i + 1,⟨by omega,?_⟩,by omega,?_⟩⟩
  ·rw [samePk,sameL_false (i:=i) hl (by omega) (by simpa [eqPk] using h3)]
   exact .oA [] []
  ·rw [samePk,sameL_snoc hi2 hib,← samePk,hi.2]
   simpa [eqPk] using h3
  ·exact .oA [] []
 ·have hi2:i = a.length:=by omega
  subst hi2
  have h3:=hi.2
  rw [List.take_length,List.take_of_length_le (by omega)] at h3
  rw [h3]
  exact .oA [] []
theorem c_slices_IndexFunc_Lint (p:(List Int)→Bool) (f:FuncId) (caps:List T) (hcap:imL caps = true) (l:List (List Int)) (hf:∀ y∈l,Spc Tryz.prog f (vIs y :: caps) [] (vB (p y)) []) (hl:l.length < 4611686018427387904) :
 Spc Tryz.prog F_slices_IndexFunc_Lint [.sl 1 (l.map vIs),.clo f caps] [] (vI (idxI p l)) []:=by
 refine spec_of_ir fn_slices_IndexFunc_Lint mixm (by simp) fun e _ hst=>W_start ?_
 unfold ir_slices_IndexFunc_Lint
 refine sW ?_
 refine W_loopF mixm (α:=Nat) [8] (fun i=>i≤l.length∧((l.take i).any p = false)) (fun i=>[(8,vI i)]) (fun i=>[]) (fun i=>l.length - i) 0 ⟨by omega,?_⟩ ?_ fun i hi=>?_
 ·simp
 ·exact .oA [] []
 simp only [tZ,↓un_u,simprocAttr,decide_eq_true_eq,decide_eq_false_iff_not]
 refine ⟨fun h=>?_,fun h=>?_⟩
 ·have hi2:i < l.length:=by omega
  have hwi:=i64_succ (i:=i) (by omega)
  simp only [tZ,↓un_u,simprocAttr,Int.toNat_natCast,getD_mapT hi2,hwi,cells_v]
  refine ⟨by omega,?_⟩
  refine C1.im (hf l[i] (List.getElem_mem hi2)) (imAL_cons rfl hcap) rfl ?_
  refine sW ?_
  refine ⟨fun h3=>?_,fun h3=>⟨i + 1,⟨by omega,any_snoc hi2 hi.2 h3⟩,by omega,?_⟩⟩
  ·rw [idxI,if_pos (any_at hi2 h3),findIdx_at hi2 hi.2 h3]
   exact .imR rfl rfl
  ·exact .oA [] []
 ·have h2:i = l.length:=by omega
  have h3:=hi.2
  rw [h2,List.take_length] at h3
  rw [idxI,if_neg (by rw [h3];simp)]
  exact .imR rfl rfl
theorem c_slices_ContainsFunc_Lint (p:(List Int)→Bool) (f:FuncId) (caps:List T) (hcap:imL caps = true) (l:List (List Int)) (hf:∀ y∈l,Spc Tryz.prog f (vIs y :: caps) [] (vB (p y)) []) (hl:l.length < 4611686018427387904) :
 Spc Tryz.prog F_slices_ContainsFunc_Lint [.sl 1 (l.map vIs),.clo f caps] [] (vB (l.any p)) []:=by
 refine spec_of_ir fn_slices_ContainsFunc_Lint mixm (by simp) fun e _ hst=>W_start ?_
 unfold ir_slices_ContainsFunc_Lint
 refine sW ?_
 refine C1.im (c_slices_IndexFunc_Lint p f caps hcap l hf hl) (imAL_clo rfl hcap) rfl ?_
 refine sW ?_
 rw [show decide (idxI p l≥0) = l.any p from idxI_ge p l]
 exact .imR rfl rfl
theorem c_slices_IndexFunc_int (p:Int→Bool) (f:FuncId) (caps:List T) (hcap:imL caps = true) (l:List Int) (hf:∀ y∈l,Spc Tryz.prog f (vI y :: caps) [] (vB (p y)) []) (hl:l.length < 4611686018427387904) :
 Spc Tryz.prog F_slices_IndexFunc_int [.sl 1 (l.map vI),.clo f caps] [] (vI (idxI p l)) []:=by
 refine spec_of_ir fn_slices_IndexFunc_int mixm (by simp) fun e _ hst=>W_start ?_
 unfold ir_slices_IndexFunc_int
 refine sW ?_
 refine W_loopF mixm (α:=Nat) [8] (fun i=>i≤l.length∧((l.take i).any p = false)) (fun i=>[(8,vI i)]) (fun i=>[]) (fun i=>l.length - i) 0 ⟨by omega,?_⟩ ?_ fun i hi=>?_
 ·simp
 ·exact .oA [] []
 simp only [tZ,↓un_u,simprocAttr,decide_eq_true_eq,decide_eq_false_iff_not]
 refine ⟨fun h=>?_,fun h=>?_⟩
 ·have hi2:i < l.length:=by omega
  have hwi:=i64_succ (i:=i) (by omega)
  simp only [tZ,↓un_u,simprocAttr,Int.toNat_natCast,getD_mapT hi2,hwi,cells_v]
  refine ⟨by omega,?_⟩
  refine C1.im (hf l[i] (List.getElem_mem hi2)) (imAL_cons rfl hcap) rfl ?_
  refine sW ?_
  refine ⟨fun h3=>?_,fun h3=>⟨i + 1,⟨by omega,any_snoc hi2 hi.2 h3⟩,by omega,?_⟩⟩
  ·rw [idxI,if_pos (any_at hi2 h3),findIdx_at hi2 hi.2 h3]
   exact .imR rfl rfl
  ·exact .oA [] []
 ·have h2:i = l.length:=by omega
  have h3:=hi.2
  rw [h2,List.take_length] at h3
  rw [idxI,if_neg (by rw [h3];simp)]
  exact .imR rfl rfl
theorem c_slices_ContainsFunc_int (p:Int→Bool) (f:FuncId) (caps:List T) (hcap:imL caps = true) (l:List Int) (hf:∀ y∈l,Spc Tryz.prog f (vI y :: caps) [] (vB (p y)) []) (hl:l.length < 4611686018427387904) :
 Spc Tryz.prog F_slices_ContainsFunc_int [.sl 1 (l.map vI),.clo f caps] [] (vB (l.any p)) []:=by
 refine spec_of_ir fn_slices_ContainsFunc_int mixm (by simp) fun e _ hst=>W_start ?_
 unfold ir_slices_ContainsFunc_int
 refine sW ?_
 refine C1.im (c_slices_IndexFunc_int p f caps hcap l hf hl) (imAL_clo rfl hcap) rfl ?_
 refine sW ?_
 rw [show decide (idxI p l≥0) = l.any p from idxI_ge p l]
 exact .imR rfl rfl
def idxN (n:Int):List Int→Nat
 | []=>0
 | x :: r=>if x = n then 0 else idxN n r + 1
theorem idxN_at {n:Int}:∀ {l:List Int} {i:Nat} (h:i < l.length),n∉l.take i→l[i] = n→idxN n l = i
 | [],i,h,_,_=>by simp at h
 | x :: r,0,h,_,hp=>by simp at hp;simp [idxN,hp]
 | x :: r,i + 1,h,h1,hp=>by
   simp only [List.take_succ_cons,List.mem_cons,not_or] at h1
   simp only [idxN]
   rw [if_neg (fun e=>h1.1 e.symm),idxN_at (l:=r) (i:=i) (by simpa using h) h1.2 (by simpa using hp)]
def indexI (l:List Int) (n:Int):Int:=if n∈l then idxN n l else -1
theorem c_slices_Index_int (l:List Int) (n:Int) (hl:l.length < 4611686018427387904):Spc Tryz.prog F_slices_Index_int [vIs l,vI n] [] (vI (indexI l n)) []:=by
 refine spec_of_ir fn_slices_Index_int mixm (by simp) fun e _ hst=>W_start ?_
 unfold ir_slices_Index_int
 refine sW ?_
 refine W_loopF mixm (α:=Nat) [8] (fun i=>i≤l.length∧(n∉l.take i)) (fun i=>[(8,vI i)]) (fun i=>[]) (fun i=>l.length - i) 0 ⟨by omega,?_⟩ ?_ fun i hi=>?_
 ·simp
 ·exact .oA [] []
 simp only [tZ,↓un_u,simprocAttr,decide_eq_true_eq,decide_eq_false_iff_not]
 refine ⟨fun h=>?_,fun h=>?_⟩
 ·have hi2:i < l.length:=by omega
  have hwi:=i64_succ (i:=i) (by omega)
  simp only [tZ,↓un_u,simprocAttr,Int.toNat_natCast,getD_mapT hi2,hwi,beq_iff_eq,beq_eq_false_iff_ne]
  refine ⟨by omega,fun h3=>?_,fun h3=>⟨i + 1,⟨by omega,?_⟩,by omega,?_⟩⟩
  ·have hm:n∈l:=by rw [h3];exact List.getElem_mem hi2
   rw [indexI,if_pos hm,idxN_at hi2 hi.2 h3.symm]
   exact .imR rfl rfl
  ·rw [take_snoc hi2,List.mem_append]
   rintro (h4 | h4)
   ·exact hi.2 h4
   ·simp at h4;exact h3 h4
  ·exact .oA [] []
 ·have h2:i = l.length:=by omega
  have h3:=hi.2
  rw [h2,List.take_length] at h3
  rw [indexI,if_neg h3]
  exact .imR rfl rfl
theorem c_slices_Contains_int (l:List Int) (n:Int) (hl:l.length < 4611686018427387904):Spc Tryz.prog F_slices_Contains_int [vIs l,vI n] [] (vB (l.contains n)) []:=by
 refine spec_of_ir fn_slices_Contains_int mixm (by simp) fun e _ hst=>W_start ?_
 unfold ir_slices_Contains_int
 refine sW ?_
 refine C1.im (c_slices_Index_int l n hl) rfl (by rfl) ?_
 refine sW ?_
 refine .imR ?_ rfl
 unfold indexI
 by_cases h:n∈l
 ·rw [if_pos h,List.contains_iff_mem.2 h];simp
 ·rw [if_neg h]
  cases hc:l.contains n
  ·simp
  ·exact absurd (List.contains_iff_mem.1 hc) h
theorem c_refresh_ascends (l:List Int) (hl:l.length < 4611686018427387904):Spc Tryz.prog F_refresh_ascends [vIs l] [] (vB (ascI l)) []:=by
 have hB:ascI l = (List.range l.length).all (asc2 l):=rfl
 rw [hB]
 refine spec_of_ir fn_refresh_ascends mixm (by simp) fun e _ hst=>W_start ?_
 unfold ir_refresh_ascends
 refine sW ?_
 rcases Nat.eq_zero_or_pos l.length with hz | hz
 ·refine W_loopF mixm (α:=Nat) [3] (fun i=>i = 0) (fun i=>[(3,vI (i + 1:Nat))]) (fun i=>[]) (fun i=>0) 0 rfl ?_ fun i hi=>?_
  ·exact .oA [] []
  subst hi
  refine sD ?_
  refine ⟨fun h=>absurd h (by omega),fun _=>?_⟩
  rw [hz]
  exact .oA [] []
 refine W_loopF mixm (α:=Nat) [3] (fun i=>i + 1≤l.length∧(List.range (i + 1)).all (asc2 l) = true) (fun i=>[(3,vI (i + 1:Nat))]) (fun i=>[]) (fun i=>l.length - i) 0 ⟨by omega,by rfl⟩ ?_ fun i hi=>?_
 ·exact .oA [] []
 obtain ⟨i1,i2⟩:=hi
 refine sD ?_
 refine ⟨fun h2=>?_,fun h2=>?_⟩
 ·have hi2:i + 1 < l.length:=by omega
  have hi3:i < l.length:=by omega
  have hwi:=i64_succ (i:=i + 1) (by omega)
  have e3:=i64_pred (i:=i + 1) (by omega) (by omega)
  rw [Nat.add_sub_cancel] at e3
  have hP:asc2 l (i + 1) = decide (l[i] < l[i + 1]):=by
   unfold asc2
   rw [Nat.add_sub_cancel,getD_get hi2,getD_get hi3,decide_eq_false (by omega),Bool.false_or]
  simp only [tZ,↓un_u,simprocAttr,Int.toNat_natCast,getD_mapT hi2,getD_mapT hi3,e3,hwi,tD]
  refine ⟨by omega,by omega,by kernel_rfl,fun h4=>?_,fun h4=>?_⟩
  ·rw [all_no hi2 (by rw [hP];exact decide_eq_false (by omega))]
   exact .oA [] []
  ·refine ⟨i + 1,⟨by omega,by rw [all_succ,i2,hP];exact decide_eq_true (by omega)⟩,by omega,?_⟩
   exact .oA [] []
 ·have hil:i + 1 = l.length:=by omega
  rw [← hil,i2]
  exact .oA [] []
theorem imAL_two {x y:T} {l:List T} (hx:imA x = true) (hy:imA y = true) (h:imL l = true):imAL ([x,y] ++ l) = true:=by
 show (imA x && (imA y && imAL l)) = true
 rw [hx,hy,imAL_of h];rfl
theorem c_slices_BinarySearchFunc_LLint_Lint_int (c:(List Int)→Int) (x:Int) (f:FuncId) (caps:List T) (hcap:imL caps = true) (l:List (List Int)) (hf:∀ y∈l,Spc Tryz.prog f (vIs y :: vI x :: caps) [] (vI (c y)) []) (hl:l.length < 4611686018427387904)
 (hm:∀ (i j:Nat) (hi:i < l.length) (hj:j < l.length),i < j→c l[j] < 0→c l[i] < 0) :
 Spc Tryz.prog F_slices_BinarySearchFunc_LLint_Lint_int [.sl 1 (l.map vIs),vI x,.clo f caps] [] (.tup [vI (l.findIdx fun y=>decide (c y≥0)),vB (match l.find? (fun y=>decide (c y≥0)) with | some y=>c y == 0 | none=>false)]) []:=by
 refine spec_of_ir fn_slices_BinarySearchFunc_LLint_Lint_int mixm (by simp) fun e _ hst=>W_start ?_
 unfold ir_slices_BinarySearchFunc_LLint_Lint_int
 refine sW ?_
 refine W_loopF mixm (α:=Nat×Nat) [9,10] (fun p=>p.1≤p.2∧p.2≤l.length∧(∀ (m:Nat) (h:m < l.length),m < p.1→c l[m] < 0)∧(∀ (m:Nat) (h:m < l.length),p.2≤m→¬ c l[m] < 0)) (fun p=>[(9,vI p.1),(10,vI p.2)]) (fun p=>[]) (fun p=>p.2 - p.1) (0,l.length) ?_ ?_ fun p hp=>?_
 ·exact ⟨by simp,by simp,fun m h h2=>absurd h2 (by simp),fun m h h2=>absurd h2 (by simp only;omega)⟩
 ·exact .oA [] []
 obtain ⟨i,j⟩:=p
 obtain ⟨h1,h2,h3,h4⟩:=hp
 dsimp only at h1 h2 h3 h4
 simp only [tZ,↓un_u,simprocAttr,decide_eq_true_eq,decide_eq_false_iff_not]
 refine ⟨fun h5=>?_,fun h5=>?_⟩
 ·have hij:i < j:=by omega
  obtain ⟨h,hh,hhi,hhj⟩:∃ h:Nat,h = (i + j) / 2∧i≤h∧h < j:=⟨(i + j) / 2,rfl,by omega,by omega⟩
  have hw1:IntKind.i64.wrap ((i:Int) + (j:Int)) = ((i + j:Nat):Int):=by rw [IntWalk.i64_in _ (by omega)];omega
  have hw2:IntKind.u64.wrap ((i + j:Nat):Int) = ((i + j:Nat):Int):=IntWalk.u64_in _ (by omega)
  have hw3:shrI .u64 ((i + j:Nat):Int) 1 = (h:Int):=by
   simp only [shrI]
   rw [show (min (1:Int).toNat IntKind.u64.bits) = 1 from rfl,Int.fdiv_eq_ediv_of_nonneg _ (by decide)]
   omega
  have hw4:IntKind.i64.wrap (h:Int) = (h:Int):=IntWalk.i64_in _ (by omega)
  have hlt:h < l.length:=by omega
  have hws:=i64_succ (i:=h) (by omega)
  have hcall:=hf l[h] (List.getElem_mem hlt)
  simp only [tZ,↓un_u,simprocAttr,hw1,hw2,hw3,hw4,Int.toNat_natCast,getD_mapT hlt]
  refine ⟨by omega,?_⟩
  refine C1.im hcall (imAL_two rfl rfl hcap) rfl ?_
  simp only [tZ,↓un_u,simprocAttr,decide_eq_true_eq,decide_eq_false_iff_not,hws]
  refine ⟨fun h6=>?_,fun h6=>?_⟩
  ·refine ⟨(h + 1,j),⟨by simp only;omega,h2,fun m hm1 hm2=>?_,h4⟩,by simp only;omega,?_⟩
   ·by_cases hmh:m = h
    ·subst hmh;exact h6
    ·exact hm m h hm1 hlt (by simp only at hm2;omega) h6
   ·exact .oA [] []
  ·refine ⟨(i,h),⟨by simp only;omega,by simp only;omega,h3,fun m hm1 hm2 hm3=>?_⟩,by simp only;omega,?_⟩
   ·by_cases hmh:m = h
    ·subst hmh;exact h6 hm3
    ·exact h6 (hm h m hlt hm1 (by simp only at hm2;omega) hm3)
   ·exact .oA [] []
 ·have hij:i = j:=by omega
  subst hij
  have hfi:l.findIdx (fun y=>decide (c y≥0)) = i:=by
   by_cases hil:i < l.length
   ·refine findIdx_at hil ?_ (by simpa using h4 i hil (Nat.le_refl _))
    rw [List.any_eq_false]
    intro y hy
    obtain ⟨m,hm1,rfl⟩:=List.getElem_of_mem hy
    rw [List.length_take] at hm1
    rw [List.getElem_take]
    have:=h3 m (by omega) (by omega)
    simp;omega
   ·have:i = l.length:=by omega
    subst this
    rw [List.findIdx_eq_length]
    intro y hy
    obtain ⟨m,hm1,rfl⟩:=List.getElem_of_mem hy
    have:=h3 m hm1 hm1
    simp;omega
  rw [hfi]
  by_cases hil:i < l.length
  ·have hg:decide ((i:Int) < (l.length:Int)) = true:=by simp;omega
   have hcall:=hf l[i] (List.getElem_mem hil)
   have hfd:l.find? (fun y=>decide (c y≥0)) = some l[i]:=by
    refine find_atQ hil ?_ (by simpa using h4 i hil (Nat.le_refl _))
    rw [List.any_eq_false]
    intro y hy
    obtain ⟨m,hm1,rfl⟩:=List.getElem_of_mem hy
    rw [List.length_take] at hm1
    rw [List.getElem_take]
    have:=h3 m (by omega) (by omega)
    simp;omega
   rw [hfd]
   simp only [tZ,↓un_u,simprocAttr,hg,Int.toNat_natCast,getD_mapT hil]
   refine ⟨by omega,C2.one (by first | trivial | omega) (C1.im hcall (imAL_two rfl rfl hcap) rfl ?_)⟩
   refine sW ?_
   exact .oA [] []
  ·have hg:decide ((i:Int) < (l.length:Int)) = false:=by simp;omega
   have hfd:l.find? (fun y=>decide (c y≥0)) = none:=by
    rw [List.find?_eq_none]
    intro y hy
    obtain ⟨m,hm1,rfl⟩:=List.getElem_of_mem hy
    have:=h3 m hm1 (by omega)
    simp;omega
   rw [hfd]
   simp only [tZ,↓un_u,simprocAttr,hg]
   refine ⟨fun h=>by omega,fun h=>by omega,C2.no (by omega) ?_⟩
   simp only [tZ,↓un_u,simprocAttr,hg,G2_none,not_false_eq_true]
   exact .oA [] []
def cmpK (k:Int) (r:List Int):Int:=if hd r < k then -1 else if hd r > k then 1 else 0
theorem c_refresh_find_1 (r:List Int) (k:Int) (hr:0 < r.length):Spc Tryz.prog F_refresh_find_1 [vIs r,vI k] [] (vI (cmpK k r)) []:=by
 have hg:=getD_hd hr
 refine spec_of_ir fn_refresh_find_1 mixm (by simp) fun e _ hst=>W_start ?_
 unfold ir_refresh_find_1
 simp only [tZ,↓un_u,simprocAttr,hg,tD]
 refine ⟨by omega,fun h=>?_,fun h=>?_⟩
 ·rw [cmpK,if_pos h]
  exact .oA [] []
 refine ⟨by omega,fun h2=>?_,fun h2=>?_⟩
 ·rw [cmpK,if_neg h,if_pos h2]
  exact .oA [] []
 ·rw [cmpK,if_neg h,if_neg h2]
  exact .oA [] []
def fndN (l:List (List Int)) (k:Int):Nat:=l.findIdx fun y=>decide (cmpK k y≥0)
theorem c_refresh_find (l:List (List Int)) (k:Int) (hl:l.length < 4611686018427387904) (hr:∀ r∈l,0 < r.length) (ha:AscR l):Spc Tryz.prog F_refresh_find [vRw l,vI k] [] (.tup [vI (fndN l k),vB (hasK l k)]) []:=by
 have hp:=List.pairwise_iff_getElem.1 ha
 have hm:∀ (i j:Nat) (hi:i < l.length) (hj:j < l.length),i < j→cmpK k l[j] < 0→cmpK k l[i] < 0:=by
  intro i j hi hj hij h
  have:=hp i j hi hj hij
  unfold cmpK at *
  grind
 have hb:=c_slices_BinarySearchFunc_LLint_Lint_int (cmpK k) k F_refresh_find_1 [] rfl l (fun y hy=>c_refresh_find_1 y k (hr y hy)) (by omega) hm
 refine spec_of_ir fn_refresh_find mixm (by simp) fun e _ hst=>W_start ?_
 unfold ir_refresh_find
 refine sW ?_
 refine C1.im hb (by rfl) (by rfl) ?_
 have hb2:(match l.find? (fun y=>decide (cmpK k y≥0)) with | some y=>cmpK k y == 0 | none=>false) = hasK l k:=by
  cases hf:l.find? (fun y=>decide (cmpK k y≥0)) with
  | none=>
    have h1:=List.find?_eq_none.1 hf
    symm
    refine List.any_eq_false.2 fun y hy h2=>?_
    have h3:=h1 y hy
    simp [cmpK] at h3 h2
    grind
  | some y=>
    have h1:=List.find?_some hf
    have h2:=List.mem_of_find?_eq_some hf
    obtain ⟨h3,i,hi,h4,h5⟩:=List.find?_eq_some_iff_getElem.1 hf
    subst h4
    show (cmpK k l[i] == 0) = hasK l k
    cases hc:cmpK k l[i] == 0 with
    | true=>
      symm
      refine (show hasK l k = true from List.any_eq_true.2 ⟨_,h2,?_⟩)
      unfold cmpK at hc
      grind
    | false=>
      symm
      refine (show hasK l k = false from List.any_eq_false.2 fun y hy h6=>?_)
      obtain ⟨j,hj,rfl⟩:=List.getElem_of_mem hy
      have h7:hd l[j] = k:=by simpa using h6
      by_cases c1:j < i
      ·have:=h5 j c1
       unfold cmpK at *
       grind
      ·by_cases c2:i < j
       ·have:=hp i j hi hj c2
        unfold cmpK at *
        grind
       ·have:i = j:=by omega
        subst this
        unfold cmpK at *
        grind
 rw [hb2]
 refine sW ?_
 exact .oA [] []
theorem fndN_le (l:List (List Int)) (k:Int):fndN l k≤l.length:=List.findIdx_le_length
theorem fndN_at {l:List (List Int)} {k:Int} (ha:AscR l) (h:hasK l k = true):∃ hj:fndN l k < l.length,rowK l k = some l[fndN l k]:=by
 obtain ⟨x,hx,e⟩:=List.any_eq_true.1 h
 have e:hd x = k:=by simpa using e
 have h1:fndN l k < l.length:=List.findIdx_lt_length_of_exists ⟨x,hx,by unfold cmpK;grind⟩
 refine ⟨h1,?_⟩
 have h2:=List.findIdx_getElem (p:=fun y=>decide (cmpK k y≥0)) (xs:=l) (w:=h1)
 have h3:¬ hd l[fndN l k] < k:=by
  have:cmpK k l[fndN l k]≥0:=of_decide_eq_true h2
  unfold cmpK at this
  grind
 obtain ⟨i,hi,rfl⟩:=List.getElem_of_mem hx
 have hp:=List.pairwise_iff_getElem.1 ha
 have h4:fndN l k = i:=by
  by_cases c1:fndN l k < i
  ·have:=hp _ i h1 hi c1;omega
  ·by_cases c2:i < fndN l k
   ·have:=List.not_of_lt_findIdx c2
    simp [cmpK] at this
    grind
   ·omega
 have h5:l[fndN l k] = l[i]:=by simp only [h4]
 rw [h5]
 have h6:=(rowK_some ha).2 (List.getElem_mem hi)
 rw [e] at h6
 exact h6
end Go.Proofs
set_option linter.unusedSimpArgs false
set_option linter.unusedVariables false
namespace Go.Proofs
open Go Go.TL
set_option maxRecDepth 4000
set_option maxHeartbeats 8000000
open So
theorem c_refresh_Diff (a b:Ext) (ha:ExtSm a) (hb:ExtSm b):Spc Tryz.prog F_refresh_Diff [extT a,extT b] [] (.tup [chgT (diffC a b),vI (diffE a b)]) []:=by
 have hE:=(rfl:diffE a b = diffE a b)
 have hS:diffC a b = if diffE a b≠0 then ⟨0,[],[]⟩ else ⟨b.ver,diffG a.rows b.rows,diffR a.rows b.rows⟩:=rfl
 conv at hE=>rhs;unfold diffE
 have hbad:∀ v,v≠0→diffE a b = v→diffC a b = ⟨0,[],[]⟩∧diffE a b = v:=fun v h1 h2=>⟨by rw [hS,h2,if_pos h1],h2⟩
 have hgood:diffE a b = 0→diffC a b = ⟨b.ver,diffG a.rows b.rows,diffR a.rows b.rows⟩:=fun h=>by rw [hS,h,if_neg (by simp)]
 clear hS
 generalize diffE a b = E at hE hbad hgood ⊢
 generalize diffC a b = A at hbad hgood ⊢
 have har:=ha.rows
 have hbr:=hb.rows
 have hap:=ha.picks
 have hla:=har.1
 have hlb:=hbr.1
 refine spec_of_ir fn_refresh_Diff mixm (by simp) fun e _ hst=>W_start ?_
 unfold ir_refresh_Diff
 refine sW ?_
 refine C1.im (c_refresh_ordered a.rows har.1) (by rfl) (by rfl) ?_
 refine sW ?_
 refine C2.im (fun _=>c_refresh_ordered b.rows hbr.1) (fun _=>rfl) (by rfl) ?_
 simp only [tZ,↓un_u,simprocAttr,tD,Bool.not_eq_true',Bool.not_eq_false']
 refine ⟨fun h=>?_,fun h=>?_⟩
 ·obtain ⟨a1,a2⟩:=hbad 11 (by decide) (by rw [hE,if_pos h])
  rw [a1,a2]
  exact .oA [] []
 rw [if_neg (by rw [h.1,h.2];simp)] at hE
 obtain ⟨hap1,hasa⟩:=ordB_ok.1 h.1
 obtain ⟨hbp1,hasb⟩:=ordB_ok.1 h.2
 refine C2.im (fun _=>c_slices_Equal_Pick a.picks b.picks (by omega)) (fun _=>rfl) (by rfl) ?_
 have hpe:(a.proj.toList == b.proj.toList) = eqB a.proj b.proj:=rfl
 simp only [tZ,↓un_u,simprocAttr,tD,Bool.not_eq_true',Bool.not_eq_false',hpe]
 refine ⟨fun h2=>?_,fun h2=>?_⟩
 ·obtain ⟨a1,a2⟩:=hbad 23 (by decide) (by rw [hE,if_pos h2])
  rw [a1,a2]
  exact .oA [] []
 rw [if_neg (by rw [h2.1,h2.2];simp)] at hE
 have a1:=hgood hE
 rw [a1,hE]
 clear hbad hgood
 have hap2:=hap1
 have hrw:=hb.rows.2
 refine W_loopF mixm (α:=Nat) [48] (fun i=>i≤a.rows.length) (fun i=>[(48,vI i)]) (fun i=>[(4096,.arr 4 [extT a] false),(4100,.arr 4 [extT b] false),(4104,.arr 3 [chgT ⟨0,[],[]⟩] false),(24588,.arr 3 [.agg [vI b.ver,.asl 1 (diffG (a.rows.take i) b.rows).length,.v (.slice none 0 0)]] false),(1,.arr 1 ((diffG (a.rows.take i) b.rows).map vI) false)]) (fun i=>a.rows.length - i) 0 (by omega) ?_ fun i hi=>?_
 ·exact .oA [(4096,some 4096),(4100,some 4100),(4104,some 4104),(24588,some 24588),(1,none)] []
 ·have hgl:=diffG_len b.rows (a.rows.take i)
  rw [List.length_take] at hgl
  refine sD ?_
  refine ⟨fun h3=>?_,fun h3=>?_⟩
  ·have hi2:i < a.rows.length:=by omega
   have hwi:=i64_succ (i:=i) (by omega)
   have hpi:=hap1 _ (List.getElem_mem hi2)
   have hgi:=getD_hd hpi
   have hsp:=diffG_take b.rows a.rows hi2
   simp only [tZ,↓un_u,simprocAttr,Int.toNat_natCast,getD_mapT hi2,hgi]
   refine ⟨by omega,by omega,?_⟩
   refine C1.im (c_refresh_find b.rows (hd a.rows[i]) (by omega) hbp1 hasb) (by rfl) (by rfl) ?_
   simp only [tZ,↓un_u,simprocAttr,Bool.not_eq_true',Bool.not_eq_false']
   refine ⟨by kernel_rfl,fun h4=>?_,fun h4=>?_⟩
   ·rw [if_pos h4] at hsp
    have hspl:=congrArg List.length hsp
    simp only [List.length_append,List.length_cons,List.length_nil] at hspl
    simp only [tZ,↓un_u,simprocAttr,Int.toNat_natCast,getD_mapT hi2,hgi,hwi]
    refine ⟨by omega,by omega,by kernel_rfl,i + 1,by omega,by omega,?_⟩
    rw [hsp]
    exact .oA [(4096,some 4096),(4100,some 4100),(4104,some 4104),(24588,some 24588),(1,some 1)] []
   ·rw [if_neg (by rw [h4];simp),List.append_nil] at hsp
    simp only [tZ,↓un_u,simprocAttr,hwi]
    refine ⟨i + 1,by omega,by omega,?_⟩
    rw [hsp]
    exact .oA [(4096,some 4096),(4100,some 4100),(4104,some 4104),(24588,some 24588),(1,some 1)] []
  ·have hil:i = a.rows.length:=by omega
   subst hil
   rw [List.take_length] at hgl ⊢
   generalize hG:diffG a.rows b.rows = G at hgl ⊢
   clear hap1 hap
   refine W_loopF mixm (α:=Nat) [75] (fun i=>i≤b.rows.length) (fun i=>[(75,vI i)]) (fun i=>[(4096,.arr 4 [extT a] false),(4104,.arr 3 [chgT ⟨0,[],[]⟩] false),(24588,.arr 3 [.agg [vI b.ver,.asl 1 G.length,.asl 2 (diffR a.rows (b.rows.take i)).length]] false),(1,.arr 1 (G.map vI) false),(2,.arr 1 ((diffR a.rows (b.rows.take i)).map vIs) false)]) (fun i=>b.rows.length - i) 0 (by omega) ?_ fun i hi=>?_
   ·exact .oA [(4096,some 4096),(4104,some 4104),(24588,some 24588),(1,some 1),(2,none)] []
   ·have hrl:=diffR_len a.rows (b.rows.take i)
    rw [List.length_take] at hrl
    refine sD ?_
    refine ⟨fun h3=>?_,fun h3=>?_⟩
    ·have hi2:i < b.rows.length:=by omega
     have hwi:=i64_succ (i:=i) (by omega)
     have hpi:=hbp1 _ (List.getElem_mem hi2)
     have hgi:=getD_hd hpi
     have hsp:=diffR_take a.rows b.rows hi2
     have hlr:=hrw _ (List.getElem_mem hi2)
     have hCl:=c_slices_Clone_int b.rows[i] hlr
     simp only [tZ,↓un_u,simprocAttr,Int.toNat_natCast,getD_mapT hi2,hgi]
     refine ⟨by omega,by omega,?_⟩
     refine C1.im (c_refresh_find a.rows (hd b.rows[i]) (by omega) hap2 hasa) (by rfl) (by rfl) ?_
     refine (Classical.em (hasK a.rows (hd b.rows[i]) = true)).elim (fun h4=>?_) fun h4=>?_
     ·obtain ⟨f2,f3⟩:=fndN_at hasa h4
      generalize fndN a.rows (hd b.rows[i]) = j at f2 f3 ⊢
      rw [f3] at hsp
      rw [h4]
      have hal:=har.2 _ (List.getElem_mem f2)
      have hIn:=c_slices_Equal_int a.rows[j] b.rows[i] (by omega)
      simp only [tZ,↓un_u,simprocAttr,Int.toNat_natCast,getD_mapT hi2,getD_mapT f2]
      refine ⟨by kernel_rfl,by omega,?_⟩
      refine C2.im (fun _=>hIn) (fun _=>rfl) (by rfl) ?_
      simp only [tZ,↓un_u,simprocAttr,Bool.not_eq_true',Bool.not_eq_false']
      refine ⟨fun h5=>?_,fun h5=>?_⟩
      ·rw [if_pos (fun k=>by rw [eqRow_iff.2 (Option.some.inj k)] at h5;cases h5)] at hsp
       have hspl:=congrArg List.length hsp
       simp only [List.length_append,List.length_cons,List.length_nil] at hspl
       refine C1.im hCl (by rfl) (by rfl) ?_
       simp only [tZ,↓un_u,simprocAttr,Int.toNat_natCast,getD_mapT hi2,hgi,hwi]
       refine ⟨by omega,by kernel_rfl,i + 1,by omega,by omega,?_⟩
       rw [hsp]
       exact .oA [(4096,some 4096),(4104,some 4104),(24588,some 24588),(1,some 1),(2,some 2)] []
      ·rw [if_neg (fun k=>k (by rw [eqRow_iff.1 h5])),List.append_nil] at hsp
       simp only [tZ,↓un_u,simprocAttr,hwi]
       refine ⟨i + 1,by omega,by omega,?_⟩
       rw [hsp]
       exact .oA [(4096,some 4096),(4104,some 4104),(24588,some 24588),(1,some 1),(2,some 2)] []
     ·have h4:hasK a.rows (hd b.rows[i]) = false:=by simpa using h4
      have hrn:rowK a.rows (hd b.rows[i])≠some b.rows[i]:=fun k=>by
       have k2:=List.find?_some k
       rw [show hasK a.rows (hd b.rows[i]) = true from List.any_eq_true.2 ⟨_,List.mem_of_find?_eq_some k,k2⟩] at h4
       cases h4
      rw [if_pos hrn] at hsp
      have hspl:=congrArg List.length hsp
      simp only [List.length_append,List.length_cons,List.length_nil] at hspl
      rw [h4]
      simp only [tZ,↓un_u,simprocAttr,Int.toNat_natCast,getD_mapT hi2]
      refine ⟨by kernel_rfl,?_⟩
      refine C2.no (fun k=>k) ?_
      simp only [tZ,↓un_u,simprocAttr,hgi,hwi,Int.toNat_natCast,getD_mapT hi2]
      refine C1.im hCl (by rfl) (by rfl) ?_
      simp only [tZ,↓un_u,simprocAttr,hgi,hwi,Int.toNat_natCast,getD_mapT hi2]
      refine ⟨by omega,by kernel_rfl,i + 1,by omega,by omega,?_⟩
      rw [hsp]
      exact .oA [(4096,some 4096),(4104,some 4104),(24588,some 24588),(1,some 1),(2,some 2)] []
    ·have hil:i = b.rows.length:=by omega
     subst hil
     rw [List.take_length]
     exact .oA [] [1,2]
end Go.Proofs
set_option linter.unusedSimpArgs false
set_option linter.unusedVariables false
namespace Go.Proofs
open Go Go.TL
set_option maxRecDepth 4000
set_option maxHeartbeats 8000000
open So
theorem c_refresh_Apply_1 (x:Ext) (hx:x.picks.length < 4611686018427387904) (r:List Int):Spc Tryz.prog F_refresh_Apply_1 [vIs r,.ip (extT x).cells] [] (vB (decide (r.length≠x.picks.length + 1))) []:=by
 have hwi:=i64_succ (i:=x.picks.length) (by omega)
 refine spec_of_ir fn_refresh_Apply_1 mixm (by simp) fun e _ hst=>W_start ?_
 unfold ir_refresh_Apply_1
 refine sW ?_
 simp only [hwi]
 rw [show ((r.length:Int) != ((x.picks.length + 1:Nat):Int)) = decide (r.length≠x.picks.length + 1) from by
  rw [Bool.eq_iff_iff,bne_iff_ne,decide_eq_true_eq];omega]
 exact .oA [] []
def selR (g:List Int) (rs:List (List Int)) (r:List Int):List (List Int):=match rowK rs (hd r) with | some q=>[q] | none=>if g.contains (hd r) = true then [] else [r]
def pinR (l:List (List Int)) (r:List Int):List (List Int):=if hasK l (hd r) = true then l else l.take (fndN l (hd r)) ++ r :: l.drop (fndN l (hd r))
def app2 (a:List (List Int)) (g:List Int) (rs:List (List Int)):List (List Int):=rs.foldl pinR (a.flatMap (selR g rs))
theorem rowK_hd {l:List (List Int)} {k:Int} {r:List Int} (h:rowK l k = some r):hd r = k∧r∈l:=by
 have h1:=List.find?_some h
 exact ⟨by simpa using h1,List.mem_of_find?_eq_some h⟩
theorem hasK_iff {l:List (List Int)} {k:Int}:hasK l k = true↔∃ r∈l,hd r = k:=by
 unfold hasK
 rw [List.any_eq_true]
 simp
theorem rowK_none {l:List (List Int)} {k:Int}:rowK l k = none↔hasK l k = false:=by
 unfold rowK hasK
 rw [List.find?_eq_none,List.any_eq_false]
theorem selR_hd {g:List Int} {rs:List (List Int)} {r x:List Int} (h:x∈selR g rs r):hd x = hd r:=by
 unfold selR at h
 split at h
 ·rename_i q e
  rw [List.mem_singleton] at h
  rw [h];exact (rowK_hd e).1
 ·split at h
  ·simp at h
  ·rw [List.mem_singleton] at h
   rw [h]
theorem sel_asc {g:List Int} {rs:List (List Int)}:∀ {a:List (List Int)},AscR a→AscR (a.flatMap (selR g rs))
 | [],_=>List.Pairwise.nil
 | r :: a,h=>by
   obtain ⟨h1,h2⟩:=List.pairwise_cons.1 h
   rw [List.flatMap_cons]
   refine List.pairwise_append.2 ⟨?_,sel_asc h2,fun x hx y hy=>?_⟩
   ·unfold selR
    split
    ·exact List.pairwise_singleton _ _
    ·split
     ·exact List.Pairwise.nil
     ·exact List.pairwise_singleton _ _
   ·obtain ⟨q,hq,hy⟩:=List.mem_flatMap.1 hy
    rw [selR_hd hx,selR_hd hy]
    exact h1 q hq
theorem fndN_take {l:List (List Int)} {k:Int} {x:List Int} (h:x∈l.take (fndN l k)):hd x < k:=by
 obtain ⟨i,hi,rfl⟩:=List.getElem_of_mem h
 rw [List.length_take] at hi
 rw [List.getElem_take]
 have:=List.not_of_lt_findIdx (show i < fndN l k by omega)
 simp [cmpK] at this
 grind
theorem fndN_drop {l:List (List Int)} {k:Int} {x:List Int} (ha:AscR l) (h:x∈l.drop (fndN l k)):k≤hd x:=by
 obtain ⟨i,hi,rfl⟩:=List.getElem_of_mem h
 rw [List.length_drop] at hi
 rw [List.getElem_drop]
 have h1:fndN l k < l.length:=by omega
 have h2:=List.findIdx_getElem (p:=fun y=>decide (cmpK k y≥0)) (xs:=l) (w:=h1)
 have h3:cmpK k l[fndN l k]≥0:=of_decide_eq_true h2
 have h4:k≤hd l[fndN l k]:=by
  unfold cmpK at h3
  grind
 rcases Nat.eq_zero_or_pos i with h5 | h5
 ·subst h5
  exact h4
 ·have:=List.pairwise_iff_getElem.1 ha (fndN l k) (fndN l k + i) h1 (by omega) (by omega)
  omega
theorem pinR_ok {l:List (List Int)} {r:List Int} (ha:AscR l):AscR (pinR l r)∧∀ x,x∈pinR l r↔x∈l∨(x = r∧hasK l (hd r) = false):=by
 unfold pinR
 cases h:hasK l (hd r) with
 | true=>exact ⟨by rw [if_pos rfl];exact ha,fun x=>by simp⟩
 | false=>
   rw [if_neg (by simp)]
   have hlt:∀ x∈l.drop (fndN l (hd r)),hd r < hd x:=fun x hx=>by
    have h1:=fndN_drop ha hx
    have h2:hd x≠hd r:=fun e=>by
     rw [hasK_iff.2 ⟨x,List.mem_of_mem_drop hx,e⟩] at h
     cases h
    omega
   have ha2:=ha
   rw [← List.take_append_drop (fndN l (hd r)) l] at ha2
   obtain ⟨p1,p2,p3⟩:=List.pairwise_append.1 ha2
   refine ⟨List.pairwise_append.2 ⟨p1,List.pairwise_cons.2 ⟨fun x hx=>hlt x hx,p2⟩,fun x hx y hy=>?_⟩,fun x=>?_⟩
   ·rcases List.mem_cons.1 hy with rfl | hy
    ·exact fndN_take hx
    ·exact p3 x hx y hy
   ·have:=List.mem_append (s:=l.take (fndN l (hd r))) (t:=l.drop (fndN l (hd r))) (a:=x)
    rw [List.take_append_drop] at this
    rw [List.mem_append,List.mem_cons,this]
    simp
    grind
theorem pinRs_ok:∀ (rs l:List (List Int)),AscR l→AscR rs→AscR (rs.foldl pinR l)∧∀ x,x∈rs.foldl pinR l↔x∈l∨(x∈rs∧hasK l (hd x) = false)
 | [],l,h,_=>⟨h,fun r=>by simp⟩
 | q :: rs,l,h,hr=>by
   obtain ⟨h1,h2⟩:=List.pairwise_cons.1 hr
   obtain ⟨k1,k2⟩:=pinR_ok (r:=q) h
   obtain ⟨h3,h4⟩:=pinRs_ok rs (pinR l q) k1 h2
   refine ⟨h3,fun x=>?_⟩
   have hk:∀ y∈rs,hasK (pinR l q) (hd y) = hasK l (hd y):=fun y hy=>by
    rw [Bool.eq_iff_iff,hasK_iff,hasK_iff]
    have:=h1 y hy
    constructor
    ·rintro ⟨r,m,e⟩
     rcases (k2 r).1 m with m | ⟨m,_⟩
     ·exact ⟨r,m,e⟩
     ·subst m;omega
    ·rintro ⟨r,m,e⟩
     exact ⟨r,(k2 r).2 (.inl m),e⟩
   rw [List.foldl_cons,h4,k2,List.mem_cons]
   constructor
   ·rintro ((m | ⟨rfl,m⟩) | ⟨m,n⟩)
    ·exact .inl m
    ·exact .inr ⟨.inl rfl,m⟩
    ·rw [hk x m] at n
     exact .inr ⟨.inr m,n⟩
   ·rintro (m | ⟨rfl | m,n⟩)
    ·exact .inl (.inl m)
    ·exact .inl (.inr ⟨rfl,n⟩)
    ·exact .inr ⟨m,by rw [hk x m];exact n⟩
theorem app2_eq {a:List (List Int)} {g:List Int} {rs:List (List Int)} (ha:AscR a) (hr:AscR rs) (hg:∀ r∈rs,g.contains (hd r) = false):app2 a g rs = appR a g rs:=by
 obtain ⟨h1,h2⟩:=pinRs_ok rs (a.flatMap (selR g rs)) (sel_asc ha) hr
 obtain ⟨h3,h4⟩:=putF_ok rs (a.filter fun r=>!g.contains (hd r)) (ha.filter _) hr
 refine asc_uniq h1 h3 fun x=>?_
 show x∈rs.foldl pinR (a.flatMap (selR g rs))↔x∈rs.foldl putR (a.filter fun r=>!g.contains (hd r))
 rw [h2,h4]
 have hsel:x∈a.flatMap (selR g rs)↔(∃ r∈a,rowK rs (hd r) = some x)∨(x∈a∧hasK rs (hd x) = false∧g.contains (hd x) = false):=by
  rw [List.mem_flatMap]
  constructor
  ·rintro ⟨r,hr,hx⟩
   unfold selR at hx
   split at hx
   ·rename_i q e
    rw [List.mem_singleton] at hx
    subst hx
    exact .inl ⟨r,hr,e⟩
   ·rename_i e
    split at hx
    ·simp at hx
    ·rename_i e2
     rw [List.mem_singleton] at hx
     subst hx
     exact .inr ⟨hr,rowK_none.1 e,by simpa using e2⟩
  ·rintro (⟨r,hr,e⟩ | ⟨m,e1,e2⟩)
   ·exact ⟨r,hr,by unfold selR;rw [e];simp⟩
   ·refine ⟨x,m,?_⟩
    unfold selR
    rw [rowK_none.2 e1]
    simp only [e2]
    simp
 rw [hsel]
 constructor
 ·rintro ((⟨r,m,e⟩ | ⟨m,e1,e2⟩) | ⟨m,_⟩)
  ·exact .inl (rowK_hd e).2
  ·refine .inr ⟨List.mem_filter.2 ⟨m,by rw [e2];rfl⟩,fun q hq e=>?_⟩
   rw [hasK_iff.2 ⟨q,hq,e.symm⟩] at e1
   cases e1
  ·exact .inl m
 ·rintro (m | ⟨m,e⟩)
  ·cases hh:hasK (a.flatMap (selR g rs)) (hd x) with
   | false=>exact .inr ⟨m,rfl⟩
   | true=>
     obtain ⟨y,hy,e⟩:=hasK_iff.1 hh
     obtain ⟨r,hra,hyr⟩:=List.mem_flatMap.1 hy
     have e2:=selR_hd hyr
     refine .inl (.inl ⟨r,hra,?_⟩)
     rw [← e2,e]
     exact (rowK_some hr).2 m
  ·obtain ⟨m1,m2⟩:=List.mem_filter.1 m
   refine .inl (.inr ⟨m1,?_,by simpa using m2⟩)
   cases hh:hasK rs (hd x) with
   | false=>rfl
   | true=>
     obtain ⟨y,hy,e3⟩:=hasK_iff.1 hh
     exact absurd e3.symm (e y hy)
end Go.Proofs
