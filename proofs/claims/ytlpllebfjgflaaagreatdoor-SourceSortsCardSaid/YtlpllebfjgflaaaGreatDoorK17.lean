/- A part of the proof: trees of Go values, short forms, contracts. -/
import Derived.WalkKit
import Derived.Still
import Derived.MapKept
import GoSem.Builtin.Cap
import Derived.Laws.Externs
import GoSem.Extern.SlicesOverlaps
import Derived.Carry
import Derived.ProofKit
import Derived.OpenShut
import Derived.HandedShaped
import Derived.Lay
import Derived.LaidLaws
import Derived.MakeChecks
import Derived.SevenTiedAt
import Derived.Test.YtlpllebfjgflaaaGreatDoorChecked
import Derived.Test.YtlpllebfjgflaaaGreatDoorK16
set_option linter.unusedSimpArgs false
set_option linter.unusedVariables false
namespace Go.Proofs
open Go Go.TL
theorem inB_ok {n lo hi:Int}:inB n lo hi = true↔lo≤n∧n≤hi:=by simp [inB]
theorem SchOk.wid {s:Sch} (h:SchOk s) {i:Nat} (hi:i < s.cols.length) (h0:0 < i) (hk:(colAt s i).kind≠2) {lev:Int} (hl:1≤lev∧lev≤(colAt s i).widths.length) :
 1≤widthI (colAt s i) lev∧widthI (colAt s i) lev≤1000000∧(colAt s i).kind = 3∧(colAt s i).widths.length≤4∧-1000000≤(colAt s i).low∧(colAt s i).high≤1000000∧(colAt s i).low≤(colAt s i).high∧widthI (colAt s i) (colAt s i).widths.length = 1:=by
 have hk2:=colE_kind (h.cs i hi)
 have hk3:(colAt s i).kind = 3:=by have:=hk2.2.2.1 h0;omega
 have hm:=hk2.2.2.2.2 hk3
 generalize colAt s i = c at hl hm hk3 ⊢
 unfold measE at hm
 split at hm
 ·cases hm
 rename_i h1
 split at hm
 ·cases hm
 rename_i h2
 split at hm
 ·cases hm
 rename_i h3
 rw [Bool.not_eq_false] at h3
 have hw:∀ j,j < c.widths.length→wdOk c.widths j = true:=fun j hj=>List.all_eq_true.1 h3 j (List.mem_range.2 hj)
 have e1:inB c.low (-1000000) 1000000 = true:=by grind
 have e2:inB c.high (-1000000) 1000000 = true:=by grind
 rw [inB_ok] at e1 e2
 have hn:((c.widths.length:Int) - lev).toNat < c.widths.length:=by omega
 have hp:=wd_pos (ws:=c.widths) hw _ hn
 have h0:=hw 0 (by omega)
 rw [wdOk,if_pos rfl,beq_iff_eq] at h0
 have hmax:c.widths.getD ((c.widths.length:Int) - lev).toNat 0≤1000000:=by
  have:=hw _ hn
  unfold wdOk at this
  split at this
  ·rename_i e;rw [e,h0];omega
  ·simp only [Bool.and_eq_true,decide_eq_true_eq] at this;omega
 refine ⟨hp,hmax,hk3,by omega,by omega,by omega,by omega,?_⟩
 rw [widthI,show ((c.widths.length:Int) - c.widths.length).toNat = 0 by omega,h0]
theorem c_ref02_Leaves (s:Sch) (hok:SchOk s) (i:Nat) (hi:i < s.cols.length) (h2:(colAt s i).kind = 2):Spc Tryz.prog F_ref02_Leaves [schT s,vI i] [] (vIs (leavesL s i)) []:=by
 have hat:colAt s i = s.cols[i]:=by rw [colAt,getD_get hi]
 obtain ⟨d1,d2⟩:=hok.cdl hi h2
 obtain ⟨d3,d4⟩:=(colE_kind (hok.cs i hi)).2.2.2.1 h2
 have hcl:cdlAt s i = s.lists.getD s.cols[i].list.toNat default:=by rw [cdlAt,hat]
 rw [hcl] at d2
 rw [hat] at d1 d3 d4
 have hgl:s.lists.getD s.cols[i].list.toNat default = s.lists[s.cols[i].list.toNat]:=getD_get d1
 rw [hgl] at d2
 obtain ⟨_,d5,d6⟩:=lstE_par d2
 rw [leavesL,hcl,hgl]
 have hlv:=lvls_le (l:=s.lists[s.cols[i].list.toNat])
 have hw2:IntKind.i64.wrap (lvlsL s.lists[s.cols[i].list.toNat] - 1) = lvlsL s.lists[s.cols[i].list.toNat] - 1:=IntWalk.i64_in _ (by omega)
 refine spec_of_ir fn_ref02_Leaves mixm (by simp) fun e _ hst=>W_start ?_
 unfold ir_ref02_Leaves
 simp only [tZ,↓un_u,simprocAttr,Int.toNat_natCast,getD_mapT hi,getD_mapT d1]
 refine ⟨by omega,by omega,by kernel_rfl,?_⟩
 refine C1.im (c_ref01_Levels _ (by omega)) (by rfl) (by rfl) ?_
 simp only [tZ,↓un_u,simprocAttr,hw2]
 refine C1.im (c_ref01_At _ _ (by omega)) (by rfl) (by rfl) ?_
 refine sW ?_
 refine ⟨by kernel_rfl,?_⟩
 exact .oA [] []
end Go.Proofs
set_option linter.unusedSimpArgs false
set_option linter.unusedVariables false
namespace Go.Proofs
open Go Go.TL
theorem leaves_len {s:Sch} (h:SchOk s) {i:Nat} (hi:i < s.cols.length) (h2:(colAt s i).kind = 2):(leavesL s i).length≤60:=by
 obtain ⟨d1,d2⟩:=h.cdl hi h2
 obtain ⟨_,d5,d6⟩:=lstE_par d2
 unfold leavesL atL
 rw [if_neg (by rw [d2];simp),List.length_map]
 have:=List.length_filter_le (fun i=>(dep (cdlAt s i).codes i:Int) == lvlsL (cdlAt s i) - 1) (List.range (cdlAt s i).codes.length)
 refine Nat.le_trans (List.length_filter_le _ _) ?_
 rw [List.length_range];exact d6
end Go.Proofs
set_option linter.unusedSimpArgs false
set_option linter.unusedVariables false
namespace Go.Proofs
open Go Go.TL
end Go.Proofs
set_option linter.unusedSimpArgs false
set_option linter.unusedVariables false
namespace Go.Proofs
open Go Go.TL
set_option maxRecDepth 4000
set_option maxHeartbeats 8000000
end Go.Proofs
set_option linter.unusedSimpArgs false
set_option linter.unusedVariables false
namespace Go.Proofs
open Go Go.TL
set_option maxHeartbeats 4000000
end Go.Proofs
set_option linter.unusedSimpArgs false
set_option linter.unusedVariables false
namespace Go.Proofs
open Go Go.TL
set_option maxHeartbeats 4000000
inductive SmC:Cnd→Prop
 | mk (c:Cnd) (h1:c.kids.length < 4611686018427387904) (h2:∀ k∈c.kids,SmC k):SmC c
end Go.Proofs
set_option linter.unusedSimpArgs false
set_option linter.unusedVariables false
namespace Go.Proofs
open Go Go.TL
set_option maxHeartbeats 4000000
end Go.Proofs
set_option linter.unusedSimpArgs false
set_option linter.unusedVariables false
namespace Go.Proofs
open Go Go.TL
set_option maxHeartbeats 4000000
end Go.Proofs
set_option linter.unusedSimpArgs false
set_option linter.unusedVariables false
namespace Go.Proofs
open Go Go.TL
set_option maxHeartbeats 4000000
structure QstOk (s:Sch) (q:Qst):Prop where
 sch:schE s = 0
 kind:1≤q.kind∧q.kind≤3
 filt:chkC s q.filt = 0
 dims:q.kind = 1→dimsE s q.dims = 0∧(q.meas = -1∨isB s q.meas 3 = true)
 nd:q.dims.length≤3
 terms:q.kind = 2→isB s q.meas 3 = true∧termsE s q.meas q.terms = 0
 nt:q.terms.length≤3
 event:q.kind = 3→isB s q.meas 3 = true∧0≤(colAt s q.meas.toNat).low∧chkC s q.event = 0
 d0:q.kind≠1→q.dims = []
 t0:q.kind≠2→q.terms = []
 e0:q.kind≠3→sameC q.event cnd0 = true
end Go.Proofs
set_option linter.unusedSimpArgs false
set_option linter.unusedVariables false
namespace Go.Proofs
open Go Go.TL
def hd (r:List Int):Int:=r.getD 0 0
def putS (row:List Int):List (List Int)×Bool→List Int→List (List Int)×Bool:=fun x r=>
 if hd r = hd row then x
 else if hd r > hd row∧x.2 = false then (x.1 ++ [row] ++ [r],true)
 else (x.1 ++ [r],x.2)
def putR (l:List (List Int)) (row:List Int):List (List Int):=
 let x:=l.foldl (putS row) ([],false)
 if x.2 then x.1 else x.1 ++ [row]
def dropR (l:List (List Int)) (id:Int):List (List Int):=l.filter fun r=>hd r != id
def atR (id:Int) (r:List Int):Bool:=decide (0 < r.length) && (hd r == id)
def findR (s:Src) (id:Int):Int:=if s.rows.any (atR id) = true then (s.rows.findIdx (atR id):Int) else -1
def asc2 (l:List Int) (i:Nat):Bool:=decide (i = 0) || decide (l.getD (i - 1) 0 < l.getD i 0)
def rowsOk2 (s:Src):Bool:=(List.range s.rows.length).all fun i=>(rowE s.sch (s.rows.getD i []) == 0) && (decide (i = 0) || decide (hd (s.rows.getD (i - 1) []) < hd (s.rows.getD i [])))
def goneOk (s:Src):Bool:=(List.range s.gone.length).all fun i=>decide (1≤s.gone.getD i 0) && decide (s.gone.getD i 0≤1048575) && asc2 s.gone i && decide (findR s (s.gone.getD i 0) < 0)
def srcB (s:Src):Bool:=(schE s.sch == 0) && decide (s.rows.length≤200) && decide (s.gone.length≤300) && decide (0≤s.ver) && decide (s.ver≤300) && rowsOk2 s && goneOk s
def putI (l:List Int) (n:Int):List Int:=So.insU So.ltI So.eqI2 l n
abbrev src0:Src:=⟨⟨[],[]⟩,[],[],0⟩
def applyE (s:Src) (e:Edt):Int:=
 if srcB s = false∨s.ver = 300 then 13
 else if e.kind = 1∨e.kind = 2 then
  (if rowE s.sch e.row≠0 then rowE s.sch e.row else if s.gone.contains (hd e.row) = true then 20
   else if e.kind = 1∧0≤findR s (hd e.row) then 10 else if e.kind = 1∧s.rows.length = 200 then 1
   else if e.kind = 2∧findR s (hd e.row) < 0 then 19 else 0)
 else if e.kind = 3 then (if findR s e.id < 0 then 19 else 0)
 else if e.kind = 4 then (if e.id < 1∨e.id > 1048575 then 2 else if s.gone.contains e.id = true then 20 else 0)
 else 4
def applyR (s:Src) (e:Edt):List (List Int):=if e.kind = 1∨e.kind = 2 then putR s.rows e.row else dropR s.rows e.id
def applyS (s:Src) (e:Edt):Src:=if applyE s e≠0 then src0 else ⟨s.sch,applyR s e,if e.kind = 4 then putI s.gone e.id else s.gone,s.ver + 1⟩
end Go.Proofs
set_option linter.unusedSimpArgs false
set_option linter.unusedVariables false
namespace Go.Proofs
open Go Go.TL
def AscR (l:List (List Int)):Prop:=l.Pairwise fun a b=>hd a < hd b
theorem putS_true {row:List Int}:∀ (l acc:List (List Int)),(∀ r∈l,hd row < hd r)→l.foldl (putS row) (acc,true) = (acc ++ l,true)
 | [],acc,_=>by simp
 | r :: l,acc,h=>by
   have h1:=h r (by simp)
   have e:putS row (acc,true) r = (acc ++ [r],true):=by
    unfold putS
    rw [if_neg (by omega),if_neg (by simp)]
   rw [List.foldl_cons,e,putS_true l _ fun x hx=>h x (List.mem_cons_of_mem _ hx)]
   simp
theorem putS_false {row:List Int}:∀ (l acc:List (List Int)),AscR l→l.foldl (putS row) (acc,false) =
 if (l.any fun r=>decide (hd row < hd r)) = true then (acc ++ l.filter (fun r=>decide (hd r < hd row)) ++ row :: l.filter (fun r=>decide (hd row < hd r)),true)
 else (acc ++ l.filter (fun r=>decide (hd r < hd row)),false)
 | [],acc,_=>by simp
 | r :: l,acc,h=>by
   obtain ⟨h1,h2⟩:=List.pairwise_cons.1 h
   rw [List.foldl_cons]
   by_cases e1:hd r = hd row
   ·have e:putS row (acc,false) r = (acc,false):=by unfold putS;rw [if_pos e1]
    have d1:decide (hd row < hd r) = false:=by simp;omega
    have d2:decide (hd r < hd row) = false:=by simp;omega
    rw [e,putS_false l acc h2,List.any_cons,List.filter_cons,List.filter_cons,d1,d2]
    simp
   ·by_cases e2:hd r > hd row
    ·have e:putS row (acc,false) r = (acc ++ [row] ++ [r],true):=by unfold putS;rw [if_neg e1,if_pos ⟨e2,rfl⟩]
     have hall:∀ x∈l,hd row < hd x:=fun x hx=>by have:=h1 x hx;omega
     have d1:decide (hd row < hd r) = true:=by simp;omega
     have d2:decide (hd r < hd row) = false:=by simp;omega
     have f1:l.filter (fun r=>decide (hd row < hd r)) = l:=List.filter_eq_self.2 fun x hx=>by simpa using hall x hx
     have f2:l.filter (fun r=>decide (hd r < hd row)) = []:=List.filter_eq_nil_iff.2 fun x hx=>by have:=hall x hx;simp;omega
     rw [e,putS_true l _ hall,List.any_cons,List.filter_cons,List.filter_cons,d1,d2,f1,f2]
     simp
    ·have e:putS row (acc,false) r = (acc ++ [r],false):=by
      unfold putS
      rw [if_neg e1,if_neg (fun k=>e2 k.1)]
     have d1:decide (hd row < hd r) = false:=by simp;omega
     have d2:decide (hd r < hd row) = true:=by simp;omega
     rw [e,putS_false l _ h2,List.any_cons,List.filter_cons,List.filter_cons,d1,d2]
     simp
theorem putR_eq {l:List (List Int)} {row:List Int} (h:AscR l):putR l row = l.filter (fun r=>decide (hd r < hd row)) ++ row :: l.filter (fun r=>decide (hd row < hd r)):=by
 unfold putR
 rw [putS_false l [] h]
 by_cases e:(l.any fun r=>decide (hd row < hd r)) = true
 ·rw [if_pos e];simp
 ·rw [if_neg e]
  have f1:l.filter (fun r=>decide (hd row < hd r)) = []:=List.filter_eq_nil_iff.2 fun x hx=>by
   intro k
   exact e (List.any_eq_true.2 ⟨x,hx,k⟩)
  rw [f1]
  simp
theorem putR_asc {l:List (List Int)} {row:List Int} (h:AscR l):AscR (putR l row):=by
 rw [putR_eq h]
 unfold AscR
 rw [List.pairwise_append]
 refine ⟨h.filter _,List.pairwise_cons.2 ⟨fun x hx=>?_,h.filter _⟩,fun a ha b hb=>?_⟩
 ·have:=(List.mem_filter.1 hx).2
  simpa using this
 ·have h1:=(List.mem_filter.1 ha).2
  rcases List.mem_cons.1 hb with rfl | hb
  ·simpa using h1
  ·have h2:=(List.mem_filter.1 hb).2
   simp only [decide_eq_true_eq] at h1 h2
   omega
theorem putR_mem {l:List (List Int)} {row r:List Int} (h:AscR l):r∈putR l row↔r = row∨(r∈l∧hd r≠hd row):=by
 rw [putR_eq h,List.mem_append,List.mem_cons,List.mem_filter,List.mem_filter]
 simp only [decide_eq_true_eq]
 constructor
 ·rintro (⟨a,b⟩ | a | ⟨a,b⟩)
  ·exact .inr ⟨a,by omega⟩
  ·exact .inl a
  ·exact .inr ⟨a,by omega⟩
 ·rintro (a | ⟨a,b⟩)
  ·exact .inr (.inl a)
  ·by_cases c:hd r < hd row
   ·exact .inl ⟨a,c⟩
   ·exact .inr (.inr ⟨a,by omega⟩)
theorem putR_len (l:List (List Int)) (row:List Int):(putR l row).length≤l.length + 1:=by
 have key:∀ (l:List (List Int)) (x:List (List Int)×Bool),(l.foldl (putS row) x).1.length + (if (l.foldl (putS row) x).2 then 0 else 1)≤x.1.length + (if x.2 then 0 else 1) + l.length:=by
  intro l
  induction l with
  | nil=>intro x;simp only [List.foldl_nil,List.length_nil,Nat.add_zero];exact Nat.le_refl _
  | cons r l ih=>
    intro x
    have h1:=ih (putS row x r)
    have h2:(putS row x r).1.length + (if (putS row x r).2 then 0 else 1)≤x.1.length + (if x.2 then 0 else 1) + 1:=by
     unfold putS
     split
     ·omega
     ·split
      ·rename_i h;rw [h.2];simp
      ·simp;omega
    rw [List.foldl_cons,List.length_cons]
    omega
 have:=key l ([],false)
 unfold putR
 simp only [List.length_nil,Bool.false_eq_true,if_false] at this
 dsimp only
 split
 ·rename_i h;rw [h] at this;simp at this;omega
 ·rename_i h
  rw [if_neg h] at this
  rw [List.length_append]
  simp
  omega
end Go.Proofs
set_option linter.unusedSimpArgs false
set_option linter.unusedVariables false
namespace Go.Proofs
open Go Go.TL
theorem pw_of {α:Type} [Inhabited α] {f:α→Int} {l:List α} (h:∀ i,0 < i→i < l.length→f (l.getD (i - 1) default) < f (l.getD i default)):l.Pairwise fun a b=>f a < f b:=by
 rw [List.pairwise_iff_getElem]
 have key:∀ (d i:Nat) (hj:i + d + 1 < l.length),f (l[i]'(by omega)) < f l[i + d + 1]:=by
  intro d
  induction d with
  | zero=>
    intro i hj
    have:=h (i + 1) (by omega) (by omega)
    rw [getD_get (by omega),getD_get (by omega)] at this
    simpa using this
  | succ d ih=>
    intro i hj
    have h1:=ih i (by omega)
    have h2:=h (i + d + 1 + 1) (by omega) (by omega)
    rw [getD_get (by omega),getD_get (by omega)] at h2
    simp only [Nat.add_sub_cancel] at h2
    have e:i + (d + 1) + 1 = i + d + 1 + 1:=by omega
    simp only [e]
    omega
 intro i j hi hj hij
 have:=key (j - i - 1) i (by omega)
 have e:i + (j - i - 1) + 1 = j:=by omega
 simp only [e] at this
 exact this
theorem pw_at {α:Type} [Inhabited α] {f:α→Int} {l:List α} (h:l.Pairwise fun a b=>f a < f b) {i:Nat} (h0:0 < i) (hi:i < l.length):f (l.getD (i - 1) default) < f (l.getD i default):=by
 rw [getD_get (by omega),getD_get hi]
 exact List.pairwise_iff_getElem.1 h (i - 1) i (by omega) hi (by omega)
structure SrcOk (s:Src):Prop where
 sch:schE s.sch = 0
 nr:s.rows.length≤200
 ng:s.gone.length≤300
 ver:0≤s.ver∧s.ver≤300
 rows:∀ r∈s.rows,rowE s.sch r = 0
 asc:AscR s.rows
 gone:∀ g∈s.gone,1≤g∧g≤1048575∧findR s g < 0
 gasc:s.gone.Pairwise fun a b=>a < b
theorem row_pos {s:Sch} {r:List Int} (h:rowE s r = 0):0 < r.length:=by
 obtain ⟨h1,h2,_⟩:=rowE_ok h
 have:=(schE_ok h1).nc
 omega
theorem findR_neg {s:Src} {id:Int}:findR s id < 0↔∀ r∈s.rows,atR id r = false:=by
 unfold findR
 split
 ·rename_i h
  obtain ⟨r,h1,h2⟩:=List.any_eq_true.1 h
  constructor
  ·intro h3;omega
  ·intro h3;rw [h3 r h1] at h2;cases h2
 ·rename_i h
  constructor
  ·intro _ r hr
   cases e:atR id r with
   | false=>rfl
   | true=>exact absurd (List.any_eq_true.2 ⟨r,hr,e⟩) h
  ·intro _;omega
theorem srcB_ok {s:Src}:srcB s = true↔SrcOk s:=by
 unfold srcB rowsOk2 goneOk asc2
 simp only [Bool.and_eq_true,beq_iff_eq,decide_eq_true_eq,List.all_eq_true,List.mem_range,Bool.or_eq_true]
 constructor
 ·rintro ⟨⟨⟨⟨⟨⟨h1,h2⟩,h3⟩,h4⟩,h5⟩,h6⟩,h7⟩
  refine ⟨h1,h2,h3,⟨h4,h5⟩,fun r hr=>?_,?_,fun g hg=>?_,?_⟩
  ·obtain ⟨i,hi,rfl⟩:=List.getElem_of_mem hr
   have:=(h6 i hi).1
   rw [getD_get hi] at this
   exact this
  ·exact pw_of (f:=hd) fun i h0 hi=>((h6 i hi).2.resolve_left (by omega))
  ·obtain ⟨i,hi,rfl⟩:=List.getElem_of_mem hg
   obtain ⟨⟨⟨a,b⟩,c⟩,d⟩:=h7 i hi
   rw [getD_get hi] at a b d
   exact ⟨a,b,d⟩
  ·exact pw_of (f:=fun x:Int=>x) fun i h0 hi=>((h7 i hi).1.2.resolve_left (by omega))
 ·intro h
  refine ⟨⟨⟨⟨⟨⟨h.sch,h.nr⟩,h.ng⟩,h.ver.1⟩,h.ver.2⟩,fun i hi=>⟨?_,?_⟩⟩,fun i hi=>⟨⟨⟨?_,?_⟩,?_⟩,?_⟩⟩
  ·rw [getD_get hi];exact h.rows _ (List.getElem_mem hi)
  ·by_cases e:i = 0
   ·exact .inl e
   ·exact .inr (pw_at (f:=hd) h.asc (by omega) hi)
  ·rw [getD_get hi];exact (h.gone _ (List.getElem_mem hi)).1
  ·rw [getD_get hi];exact (h.gone _ (List.getElem_mem hi)).2.1
  ·by_cases e:i = 0
   ·exact .inl e
   ·exact .inr (pw_at (f:=fun x:Int=>x) h.gasc (by omega) hi)
  ·rw [getD_get hi];exact (h.gone _ (List.getElem_mem hi)).2.2
theorem atR_ok {s:Sch} {r:List Int} (h:rowE s r = 0) (id:Int):atR id r = (hd r == id):=by
 unfold atR
 rw [decide_eq_true (row_pos h),Bool.true_and]
theorem putR_len_in {l:List (List Int)} {row:List Int} (h:AscR l) (hk:∃ r∈l,hd r = hd row):(putR l row).length≤l.length:=by
 obtain ⟨r,hr,e⟩:=hk
 rw [putR_eq h,List.length_append,List.length_cons]
 obtain ⟨i,hi,rfl⟩:=List.getElem_of_mem hr
 have h1:l = l.take i ++ l[i] :: l.drop (i + 1):=by rw [← List.drop_eq_getElem_cons hi,List.take_append_drop]
 have f1:(l.filter fun r=>decide (hd r < hd row)).length + (l.filter fun r=>decide (hd row < hd r)).length≤(l.take i).length + (l.drop (i + 1)).length:=by
  rw [h1,List.filter_append,List.filter_append,List.filter_cons,List.filter_cons,decide_eq_false (by omega),decide_eq_false (by omega),← h1]
  have key:∀ m:List (List Int),(m.filter fun r=>decide (hd r < hd row)).length + (m.filter fun r=>decide (hd row < hd r)).length≤m.length:=by
   intro m
   induction m with
   | nil=>simp
   | cons x m ih=>
     rw [List.filter_cons,List.filter_cons,List.length_cons]
     by_cases a:hd x < hd row
     ·rw [decide_eq_true a,decide_eq_false (by omega)]
      simp only [if_true,Bool.false_eq_true,if_false,List.length_cons];omega
     ·rw [decide_eq_false a]
      by_cases b:hd row < hd x
      ·rw [decide_eq_true b];simp only [if_true,Bool.false_eq_true,if_false,List.length_cons];omega
      ·rw [decide_eq_false b];simp only [Bool.false_eq_true,if_false];omega
  have k1:=key (l.take i)
  have k2:=key (l.drop (i + 1))
  simp only [Bool.false_eq_true,if_false,List.length_append]
  omega
 rw [List.length_take,List.length_drop] at f1
 omega
theorem putI_mem {l:List Int} {n x:Int}:x∈putI l n↔x = n∨x∈l:=So.insU_mem So.eqI2_iff
theorem lt_pw {l:List Int}:(l.Pairwise fun a b=>a < b)↔l.Pairwise fun a b=>So.ltI a b = true:=by
 constructor
 ·exact fun h=>h.imp fun k=>decide_eq_true k
 ·exact fun h=>h.imp fun k=>of_decide_eq_true k
theorem putI_asc {l:List Int} {n:Int} (h:l.Pairwise fun a b=>a < b):(putI l n).Pairwise fun a b=>a < b:=lt_pw.2 (So.insU_srt So.ltI_ord So.ltI_tot So.ltI_trans So.eqI2_iff (lt_pw.1 h))
theorem putI_len (l:List Int) (n:Int):(putI l n).length≤l.length + 1:=So.insU_len
theorem apply_ok {s:Src} {e:Edt} (h:SrcOk s) (hg:(s.gone.length:Int)≤s.ver) (he:applyE s e = 0):SrcOk (applyS s e)∧((applyS s e).gone.length:Int)≤(applyS s e).ver:=by
 have hv:=h.ver
 have e0:applyS s e = ⟨s.sch,applyR s e,if e.kind = 4 then putI s.gone e.id else s.gone,s.ver + 1⟩:=by rw [applyS,if_neg (by rw [he];simp)]
 rw [e0]
 unfold applyE at he
 split at he
 ·cases he
 rename_i hv2
 have hv3:s.ver≠300:=fun k=>hv2 (.inr k)
 by_cases k12:e.kind = 1∨e.kind = 2
 ·rw [if_pos k12] at he
  have hk4:¬ e.kind = 4:=by omega
  simp only [applyR,if_pos k12,if_neg hk4]
  split at he
  ·rename_i h1;exact absurd he h1
  rename_i h1
  have hrow:rowE s.sch e.row = 0:=Classical.byContradiction h1
  split at he
  ·cases he
  rename_i h2
  have hng:hd e.row∉s.gone:=by simpa using h2
  split at he
  ·cases he
  rename_i h3
  split at he
  ·cases he
  rename_i h4
  split at he
  ·cases he
  rename_i h5
  refine ⟨⟨h.sch,?_,h.ng,by dsimp only;omega,fun r hr=>?_,putR_asc h.asc,fun g hgm=>?_,h.gasc⟩,by omega⟩
  ·dsimp only
   rcases k12 with k | k
   ·have:=putR_len s.rows e.row
    have hn:=h.nr
    have:s.rows.length≠200:=fun q=>h4 ⟨k,q⟩
    omega
   ·have hf:¬ findR s (hd e.row) < 0:=fun q=>h5 ⟨k,q⟩
    refine Nat.le_trans (putR_len_in h.asc ?_) h.nr
    refine Classical.byContradiction fun hno=>hf (findR_neg.2 fun r hr=>?_)
    rw [atR_ok (h.rows r hr),beq_eq_false_iff_ne]
    exact fun q=>hno ⟨r,hr,q⟩
  ·rcases (putR_mem h.asc).1 hr with hr | hr
   ·rw [hr];exact hrow
   ·exact h.rows r hr.1
  ·obtain ⟨g1,g2,g3⟩:=h.gone g hgm
   refine ⟨g1,g2,findR_neg.2 fun r hr=>?_⟩
   rcases (putR_mem h.asc).1 hr with hr | hr
   ·rw [hr,atR_ok hrow,beq_eq_false_iff_ne]
    exact fun q=>hng (q ▸ hgm)
   ·exact findR_neg.1 g3 r hr.1
 ·simp only [applyR,if_neg k12]
  rw [if_neg k12] at he
  have hsub:∀ r∈dropR s.rows e.id,r∈s.rows:=fun r hr=>(List.mem_filter.1 hr).1
  have hlen:(dropR s.rows e.id).length≤200:=Nat.le_trans (List.length_filter_le _ _) h.nr
  by_cases k4:e.kind = 4
  ·rw [if_neg (by omega),if_pos k4] at he
   simp only [if_pos k4]
   split at he
   ·cases he
   rename_i h1
   have hpl:=putI_len s.gone e.id
   refine ⟨⟨h.sch,hlen,by dsimp only;omega,by dsimp only;omega,fun r hr=>h.rows r (hsub r hr),h.asc.filter _,fun g hgm=>?_,putI_asc h.gasc⟩,by omega⟩
   rcases putI_mem.1 hgm with hgm | hgm
   ·rw [hgm]
    refine ⟨by omega,by omega,findR_neg.2 fun r hr=>?_⟩
    obtain ⟨a,b⟩:=List.mem_filter.1 hr
    rw [atR_ok (h.rows r a)]
    simpa using b
   ·obtain ⟨g1,g2,g3⟩:=h.gone g hgm
    exact ⟨g1,g2,findR_neg.2 fun r hr=>findR_neg.1 g3 r (hsub r hr)⟩
  ·simp only [if_neg k4]
   refine ⟨⟨h.sch,hlen,h.ng,by dsimp only;omega,fun r hr=>h.rows r (hsub r hr),h.asc.filter _,fun g hgm=>?_,h.gasc⟩,by omega⟩
   obtain ⟨g1,g2,g3⟩:=h.gone g hgm
   exact ⟨g1,g2,findR_neg.2 fun r hr=>findR_neg.1 g3 r (hsub r hr)⟩
theorem hd_in {s:Sch} {r:List Int} (h:rowE s r = 0):1≤hd r∧hd r≤1048575:=by
 obtain ⟨h1,h2,h3⟩:=rowE_ok h
 have h4:=h3 0 (row_pos h)
 unfold holdsB at h4
 rw [if_pos (schE_ok h1).c0] at h4
 simp only [inB,Bool.and_eq_true,decide_eq_true_eq] at h4
 exact h4
end Go.Proofs
set_option linter.unusedSimpArgs false
set_option linter.unusedVariables false
namespace Go.Proofs
open Go Go.TL
set_option maxHeartbeats 4000000
open So
theorem getD_hd {r:List Int} (h:0 < r.length):(r.map vI).getD 0 .junk = vI (hd r):=by rw [getD_mapT h,hd,getD_get h]
theorem putS_len (row:List Int):∀ (l:List (List Int)) (x:List (List Int)×Bool),(l.foldl (putS row) x).1.length≤x.1.length + l.length + 1
 | l,x=>by
   have key:∀ (l:List (List Int)) (x:List (List Int)×Bool),(l.foldl (putS row) x).1.length + (if (l.foldl (putS row) x).2 then 0 else 1)≤x.1.length + (if x.2 then 0 else 1) + l.length:=by
    intro l
    induction l with
    | nil=>intro x;simp only [List.foldl_nil,List.length_nil,Nat.add_zero];exact Nat.le_refl _
    | cons r l ih=>
      intro x
      have h1:=ih (putS row x r)
      have h2:(putS row x r).1.length + (if (putS row x r).2 then 0 else 1)≤x.1.length + (if x.2 then 0 else 1) + 1:=by
       unfold putS
       split
       ·omega
       ·split
        ·rename_i h;rw [h.2];simp
        ·simp;omega
      rw [List.foldl_cons,List.length_cons]
      omega
   have:=key l x
   split at this <;> split at this <;> omega
theorem c_ref04_Put (l:List (List Int)) (row:List Int) (hl:l.length < 1000000000) (hr:∀ r∈l,0 < r.length) (h0:0 < row.length):Spc Tryz.prog F_ref04_Put [vRw l,vIs row] [] (vRw (putR l row)) []:=by
 have hP:putR l row = if (l.foldl (putS row) ([],false)).2 then (l.foldl (putS row) ([],false)).1 else (l.foldl (putS row) ([],false)).1 ++ [row]:=rfl
 have hS:=fun i=>putS_len row (l.take i) ([],false)
 have hg0:=getD_hd h0
 refine spec_of_ir fn_ref04_Put mixm (by simp) fun e _ hst=>W_start ?_
 unfold ir_ref04_Put
 refine sW ?_
 refine W_loopF mixm (α:=Nat×List (List Int)×Bool) [5,6,7] (fun x=>x.1≤l.length∧x.2 = (l.take x.1).foldl (putS row) ([],false)) (fun x=>[(5,.asl 1 x.2.1.length),(6,vB x.2.2),(7,vI x.1)]) (fun x=>[(1,.arr 1 (x.2.1.map vIs) false)]) (fun x=>l.length - x.1) (0,[],false) ⟨by simp,by simp⟩ ?_ fun x hx=>?_
 ·exact .oA [(1,none)] []
 obtain ⟨i,a,b⟩:=x
 obtain ⟨x1,x2⟩:=hx
 dsimp only at x1 x2
 have hSi:=hS i
 rw [← x2] at hSi
 simp only [List.length_nil,List.length_take] at hSi
 refine sD ?_
 refine ⟨fun h=>?_,fun h=>?_⟩
 ·have hi2:i < l.length:=by omega
  have hwi:=i64_succ (i:=i) (by omega)
  have hs:(l.take (i + 1)).foldl (putS row) ([],false) = putS row (a,b) l[i]:=by rw [take_snoc hi2,List.foldl_append,← x2];rfl
  have hrp:=hr _ (List.getElem_mem hi2)
  have hgi:=getD_hd hrp
  have hr2:putS row (a,b) l[i] = if hd l[i] = hd row then (a,b) else if hd l[i] > hd row∧b = false then (a ++ [row] ++ [l[i]],true) else (a ++ [l[i]],b):=rfl
  rw [hr2] at hs
  simp only [tZ,↓un_u,simprocAttr,Int.toNat_natCast,getD_mapT hi2,hgi,hg0,tD,beq_iff_eq,beq_eq_false_iff_ne,Bool.not_eq_true',Bool.not_eq_false',hwi]
  refine ⟨by omega,by omega,by omega,by kernel_rfl,fun h2=>?_,fun h2=>⟨by omega,by omega,by omega,by kernel_rfl,fun h3=>?_,fun h3=>?_⟩⟩
  ·rw [if_pos h2] at hs
   refine ⟨(i + 1,a,b),⟨by dsimp only;omega,hs.symm⟩,by dsimp only;omega,?_⟩
   exact .oA [(1,some 1)] []
  ·rw [if_neg h2,if_pos h3] at hs
   refine ⟨by omega,by omega,by omega,(i + 1,a ++ [row] ++ [l[i]],true),⟨by dsimp only;omega,hs.symm⟩,by dsimp only;omega,?_⟩
   exact .oA [(1,some 1)] []
  ·rw [if_neg h2,if_neg (by grind)] at hs
   refine ⟨by omega,by omega,(i + 1,a ++ [l[i]],b),⟨by dsimp only;omega,hs.symm⟩,by dsimp only;omega,?_⟩
   exact .oA [(1,some 1)] []
 ·have hil:i = l.length:=by omega
  subst hil
  rw [List.take_length] at x2
  rw [← x2] at hP
  dsimp only at hP
  simp only [tZ,↓un_u,simprocAttr,Bool.not_eq_true',Bool.not_eq_false']
  refine ⟨fun h2=>?_,fun h2=>?_⟩
  ·rw [hP,h2,if_neg (by simp)]
   refine ⟨by omega,?_⟩
   show EndOk [] _ _ (.sl 1 ((a ++ [row]).map vIs)) []
   rw [List.map_append]
   exact .oA [] [1]
  ·rw [hP,if_pos h2]
   exact .oA [] [1]
def SrcSm (s:Src):Prop:=SchSm s.sch∧∀ r∈s.rows,r.length < 4611686018427387904
end Go.Proofs
set_option linter.unusedSimpArgs false
set_option linter.unusedVariables false
namespace Go.Proofs
open Go Go.TL
set_option maxHeartbeats 4000000
open So
end Go.Proofs
set_option linter.unusedSimpArgs false
set_option linter.unusedVariables false
namespace Go.Proofs
open Go Go.TL
def ordB (l:List (List Int)):Bool:=(List.range l.length).all fun i=>decide (0 < (l.getD i []).length) && (decide (i = 0) || decide (hd (l.getD (i - 1) []) < hd (l.getD i [])))
def hasK (l:List (List Int)) (k:Int):Bool:=l.any fun r=>hd r == k
def rowK (l:List (List Int)) (k:Int):Option (List Int):=l.find? fun r=>hd r == k
def appR (a:List (List Int)) (g:List Int) (rs:List (List Int)):List (List Int):=rs.foldl putR (a.filter fun r=>!g.contains (hd r))
theorem asc_uniq {a b:List (List Int)} (ha:AscR a) (hb:AscR b) (h:∀ r,r∈a↔r∈b):a = b:=by
 refine So.srt_uniq (lt:=fun x y=>decide (hd x < hd y)) ⟨fun x y h=>?_,fun x y z h1 h2=>?_⟩ (ha.imp fun h=>decide_eq_true h) (hb.imp fun h=>decide_eq_true h) h
 ·simp only [decide_eq_true_eq] at h
  exact decide_eq_false (by omega)
 ·simp only [decide_eq_false_iff_not] at h1 h2 ⊢
  omega
theorem asc_key {l:List (List Int)} (h:AscR l) {r s:List Int} (hr:r∈l) (hs:s∈l) (e:hd r = hd s):r = s:=by
 obtain ⟨i,hi,rfl⟩:=List.getElem_of_mem hr
 obtain ⟨j,hj,rfl⟩:=List.getElem_of_mem hs
 have hp:=List.pairwise_iff_getElem.1 h
 by_cases h1:i < j
 ·have:=hp i j hi hj h1;omega
 ·by_cases h2:j < i
  ·have:=hp j i hj hi h2;omega
  ·have:i = j:=by omega
   subst this;rfl
theorem rowK_some {l:List (List Int)} (h:AscR l) {r:List Int}:rowK l (hd r) = some r↔r∈l:=by
 constructor
 ·intro e;exact List.mem_of_find?_eq_some e
 ·intro hr
  unfold rowK
  cases e:l.find? (fun s=>hd s == hd r) with
  | none=>
    have:=List.find?_eq_none.1 e r hr
    simp at this
  | some s=>
    have h1:=List.mem_of_find?_eq_some e
    have h2:=List.find?_some e
    rw [asc_key h h1 hr (by simpa using h2)]
def ascI (l:List Int):Bool:=(List.range l.length).all fun i=>asc2 l i
def appE (a:Ext) (c:Chg):Int:=
 if ordB a.rows = false∨ordB c.rows = false∨ascI c.gone = false∨(c.rows.any fun r=>decide (r.length≠a.picks.length + 1)) = true then 11
 else if (c.gone.any fun k=>!hasK a.rows k) = true then 21 else if (c.gone.any fun k=>hasK c.rows k) = true then 10 else 0
structure ExtOk (x:Ext):Prop where
 ord:ordB x.rows = true
 len:∀ r∈x.rows,r.length = x.picks.length + 1
end Go.Proofs
set_option linter.unusedSimpArgs false
set_option linter.unusedVariables false
namespace Go.Proofs
open Go Go.TL
set_option maxRecDepth 4000
set_option maxHeartbeats 8000000
open So
def RwSm (l:List (List Int)):Prop:=l.length≤1000000∧∀ r∈l,r.length * 8≤140737488355328
structure ExtSm (x:Ext):Prop where
 rows:RwSm x.rows
 picks:x.picks.length * 16≤140737488355328
structure ChgSm (c:Chg):Prop where
 rows:RwSm c.rows
 gone:c.gone.length≤1000000
end Go.Proofs
set_option linter.unusedSimpArgs false
set_option linter.unusedVariables false
namespace Go.Proofs
open Go Go.TL
set_option maxHeartbeats 8000000
open So
theorem c_slices_Clone_int (l:List Int) (hl:l.length * 8≤140737488355328):Spc Tryz.prog F_slices_Clone_int [vIs l] [] (vIs l) []:=by
 refine spec_of_ir fn_slices_Clone_int mixm (by simp) fun e _ hst=>W_start ?_
 unfold ir_slices_Clone_int
 refine sW ?_
 refine ⟨fun h=>?_,?_⟩
 ·have:l = []:=by
   simpa using h
  subst this
  exact .oA [] []
 ·refine ⟨by omega,?_⟩
  exact .oA [] [16384]
theorem c_slices_IndexFunc_Lint (p:(List Int)→Bool) (f:FuncId) (caps:List T) (hcap:imL caps = true) (l:List (List Int)) (hf:∀ y∈l,Spc Tryz.prog f (vIs y :: caps) [] (vB (p y)) []) (hl:l.length < 4611686018427387904) :
 Spc Tryz.prog F_slices_IndexFunc_Lint [.sl 1 (l.map vIs),.clo f caps] [] (vI (idxI p l)) []:=by
 refine spec_of_ir fn_slices_IndexFunc_Lint mixm (by simp) fun e _ hst=>W_start ?_
 unfold ir_slices_IndexFunc_Lint
 refine sW ?_
 refine W_loopF mixm (α:=Nat) [8] (fun i=>i≤l.length∧((l.take i).any p = false)) (fun i=>[(8,vI i)]) (fun i=>[]) (fun i=>l.length - i) 0 ⟨by omega,?_⟩ ?_ fun i hi=>?_
 ·simp
 ·exact .oA [] []
 simp only [tZ,↓un_u,simprocAttr,decide_eq_true_eq,decide_eq_false_iff_not]
 refine ⟨fun h=>?_,fun h=>?_⟩
 ·have hi2:i < l.length:=by omega
  have hwi:=i64_succ (i:=i) (by omega)
  simp only [tZ,↓un_u,simprocAttr,Int.toNat_natCast,getD_mapT hi2,hwi,cells_v]
  refine ⟨by omega,?_⟩
  refine C1.im (hf l[i] (List.getElem_mem hi2)) (imAL_cons rfl hcap) rfl ?_
  refine sW ?_
  refine ⟨fun h3=>?_,fun h3=>⟨i + 1,⟨by omega,any_snoc hi2 hi.2 h3⟩,by omega,?_⟩⟩
  ·rw [idxI,if_pos (any_at hi2 h3),findIdx_at hi2 hi.2 h3]
   exact .imR rfl rfl
  ·exact .oA [] []
 ·have h2:i = l.length:=by omega
  have h3:=hi.2
  rw [h2,List.take_length] at h3
  rw [idxI,if_neg (by rw [h3];simp)]
  exact .imR rfl rfl
def idxN (n:Int):List Int→Nat
 | []=>0
 | x :: r=>if x = n then 0 else idxN n r + 1
theorem idxN_at {n:Int}:∀ {l:List Int} {i:Nat} (h:i < l.length),n∉l.take i→l[i] = n→idxN n l = i
 | [],i,h,_,_=>by simp at h
 | x :: r,0,h,_,hp=>by simp at hp;simp [idxN,hp]
 | x :: r,i + 1,h,h1,hp=>by
   simp only [List.take_succ_cons,List.mem_cons,not_or] at h1
   simp only [idxN]
   rw [if_neg (fun e=>h1.1 e.symm),idxN_at (l:=r) (i:=i) (by simpa using h) h1.2 (by simpa using hp)]
def indexI (l:List Int) (n:Int):Int:=if n∈l then idxN n l else -1
theorem c_slices_Index_int (l:List Int) (n:Int) (hl:l.length < 4611686018427387904):Spc Tryz.prog F_slices_Index_int [vIs l,vI n] [] (vI (indexI l n)) []:=by
 refine spec_of_ir fn_slices_Index_int mixm (by simp) fun e _ hst=>W_start ?_
 unfold ir_slices_Index_int
 refine sW ?_
 refine W_loopF mixm (α:=Nat) [8] (fun i=>i≤l.length∧(n∉l.take i)) (fun i=>[(8,vI i)]) (fun i=>[]) (fun i=>l.length - i) 0 ⟨by omega,?_⟩ ?_ fun i hi=>?_
 ·simp
 ·exact .oA [] []
 simp only [tZ,↓un_u,simprocAttr,decide_eq_true_eq,decide_eq_false_iff_not]
 refine ⟨fun h=>?_,fun h=>?_⟩
 ·have hi2:i < l.length:=by omega
  have hwi:=i64_succ (i:=i) (by omega)
  simp only [tZ,↓un_u,simprocAttr,Int.toNat_natCast,getD_mapT hi2,hwi,beq_iff_eq,beq_eq_false_iff_ne]
  refine ⟨by omega,fun h3=>?_,fun h3=>⟨i + 1,⟨by omega,?_⟩,by omega,?_⟩⟩
  ·have hm:n∈l:=by rw [h3];exact List.getElem_mem hi2
   rw [indexI,if_pos hm,idxN_at hi2 hi.2 h3.symm]
   exact .imR rfl rfl
  ·rw [take_snoc hi2,List.mem_append]
   rintro (h4 | h4)
   ·exact hi.2 h4
   ·simp at h4;exact h3 h4
  ·exact .oA [] []
 ·have h2:i = l.length:=by omega
  have h3:=hi.2
  rw [h2,List.take_length] at h3
  rw [indexI,if_neg h3]
  exact .imR rfl rfl
theorem c_slices_Contains_int (l:List Int) (n:Int) (hl:l.length < 4611686018427387904):Spc Tryz.prog F_slices_Contains_int [vIs l,vI n] [] (vB (l.contains n)) []:=by
 refine spec_of_ir fn_slices_Contains_int mixm (by simp) fun e _ hst=>W_start ?_
 unfold ir_slices_Contains_int
 refine sW ?_
 refine C1.im (c_slices_Index_int l n hl) rfl (by rfl) ?_
 refine sW ?_
 refine .imR ?_ rfl
 unfold indexI
 by_cases h:n∈l
 ·rw [if_pos h,List.contains_iff_mem.2 h];simp
 ·rw [if_neg h]
  cases hc:l.contains n
  ·simp
  ·exact absurd (List.contains_iff_mem.1 hc) h
def cmpK (k:Int) (r:List Int):Int:=if hd r < k then -1 else if hd r > k then 1 else 0
def fndN (l:List (List Int)) (k:Int):Nat:=l.findIdx fun y=>decide (cmpK k y≥0)
theorem fndN_le (l:List (List Int)) (k:Int):fndN l k≤l.length:=List.findIdx_le_length
theorem fndN_at {l:List (List Int)} {k:Int} (ha:AscR l) (h:hasK l k = true):∃ hj:fndN l k < l.length,rowK l k = some l[fndN l k]:=by
 obtain ⟨x,hx,e⟩:=List.any_eq_true.1 h
 have e:hd x = k:=by simpa using e
 have h1:fndN l k < l.length:=List.findIdx_lt_length_of_exists ⟨x,hx,by unfold cmpK;grind⟩
 refine ⟨h1,?_⟩
 have h2:=List.findIdx_getElem (p:=fun y=>decide (cmpK k y≥0)) (xs:=l) (w:=h1)
 have h3:¬ hd l[fndN l k] < k:=by
  have:cmpK k l[fndN l k]≥0:=of_decide_eq_true h2
  unfold cmpK at this
  grind
 obtain ⟨i,hi,rfl⟩:=List.getElem_of_mem hx
 have hp:=List.pairwise_iff_getElem.1 ha
 have h4:fndN l k = i:=by
  by_cases c1:fndN l k < i
  ·have:=hp _ i h1 hi c1;omega
  ·by_cases c2:i < fndN l k
   ·have:=List.not_of_lt_findIdx c2
    simp [cmpK] at this
    grind
   ·omega
 have h5:l[fndN l k] = l[i]:=by simp only [h4]
 rw [h5]
 have h6:=(rowK_some ha).2 (List.getElem_mem hi)
 rw [e] at h6
 exact h6
end Go.Proofs
set_option linter.unusedSimpArgs false
set_option linter.unusedVariables false
namespace Go.Proofs
open Go Go.TL
set_option maxRecDepth 4000
set_option maxHeartbeats 8000000
def bsN (p:List Int→Bool) (l:List (List Int)):Nat→Nat→Nat→Nat
 | 0,i,_=>i
 | f + 1,i,j=>if i < j then (if p (l.getD ((i + j) / 2) []) = true then bsN p l f ((i + j) / 2 + 1) j else bsN p l f i ((i + j) / 2)) else i
theorem bsN_fuel {p:List Int→Bool} {l:List (List Int)}:∀ (f g i j:Nat),j - i < f→j - i < g→bsN p l f i j = bsN p l g i j
 | 0,_,_,_,h,_=>by omega
 | _ + 1,0,_,_,_,h=>by omega
 | f + 1,g + 1,i,j,h1,h2=>by
   simp only [bsN]
   split
   ·split
    ·exact bsN_fuel f g _ _ (by omega) (by omega)
    ·exact bsN_fuel f g _ _ (by omega) (by omega)
   ·rfl
theorem bsN_le {p:List Int→Bool} {l:List (List Int)}:∀ (f i j:Nat),i≤j→i≤bsN p l f i j∧bsN p l f i j≤j
 | 0,i,j,h=>⟨Nat.le_refl _,h⟩
 | f + 1,i,j,h=>by
   simp only [bsN]
   split
   ·split
    ·have:=bsN_le (p:=p) (l:=l) f ((i + j) / 2 + 1) j (by omega)
     omega
    ·have:=bsN_le (p:=p) (l:=l) f i ((i + j) / 2) (by omega)
     omega
   ·omega
theorem bsN_mono {p:List Int→Bool} {l:List (List Int)} (hm:∀ (i j:Nat) (hi:i < l.length) (hj:j < l.length),i < j→p l[j] = true→p l[i] = true):∀ (f i j:Nat),j - i < f→i≤j→j≤l.length→
 (∀ (m:Nat) (h:m < l.length),m < i→p l[m] = true)→(∀ (m:Nat) (h:m < l.length),j≤m→p l[m] = false)→bsN p l f i j = l.findIdx fun y=>!p y
 | 0,_,_,h,_,_,_,_=>by omega
 | f + 1,i,j,h,h1,h2,h3,h4=>by
   simp only [bsN]
   split
   ·rename_i hij
    have hh:(i + j) / 2 < l.length:=by omega
    rw [show l.getD ((i + j) / 2) [] = l[(i + j) / 2] from getD_get hh]
    split
    ·rename_i hp
     refine bsN_mono hm f _ _ (by omega) (by omega) h2 (fun m hm1 hm2=>?_) h4
     by_cases e:m = (i + j) / 2
     ·subst e;exact hp
     ·exact hm m _ hm1 hh (by omega) hp
    ·rename_i hp
     refine bsN_mono hm f _ _ (by omega) (by omega) (by omega) h3 fun m hm1 hm2=>?_
     cases e2:p l[m] with
     | false=>rfl
     | true=>
       by_cases e:m = (i + j) / 2
       ·subst e;exact absurd e2 hp
       ·exact absurd (hm _ m hh hm1 (by omega) e2) hp
   ·have hij:i = j:=by omega
    subst hij
    by_cases hil:i < l.length
    ·refine (findIdx_at hil ?_ ?_).symm
     ·rw [List.any_eq_false]
      intro y hy
      obtain ⟨m,hm1,rfl⟩:=List.getElem_of_mem hy
      rw [List.length_take] at hm1
      rw [List.getElem_take,h3 m (by omega) (by omega)]
      simp
     ·rw [h4 i hil (Nat.le_refl _)];rfl
    ·have:i = l.length:=by omega
     subst this
     symm
     rw [List.findIdx_eq_length]
     intro y hy
     obtain ⟨m,hm1,rfl⟩:=List.getElem_of_mem hy
     rw [h3 m hm1 hm1];rfl
def hitB (c:List Int→Int) (o:Option (List Int)):Bool:=match o with | some y=>c y == 0 | none=>false
theorem c_bs_any (c:List Int→Int) (x:Int) (f:FuncId) (l:List (List Int)) (hf:∀ y∈l,Spc Tryz.prog f [vIs y,vI x] [] (vI (c y)) []) (hl:l.length < 4611686018427387904) :
 Spc Tryz.prog F_slices_BinarySearchFunc_LLint_Lint_int [.sl 1 (l.map vIs),vI x,.clo f []] [] (.tup [vI (bsN (fun y=>decide (c y < 0)) l (l.length + 1) 0 l.length),vB (hitB c l[bsN (fun y=>decide (c y < 0)) l (l.length + 1) 0 l.length]?)]) []:=by
 have hB:=bsN_le (p:=fun y=>decide (c y < 0)) (l:=l) (l.length + 1) 0 l.length (by omega)
 have hB0:=(rfl:bsN (fun y=>decide (c y < 0)) l (l.length + 1) 0 l.length = bsN (fun y=>decide (c y < 0)) l (l.length + 1) 0 l.length)
 generalize hR:bsN (fun y=>decide (c y < 0)) l (l.length + 1) 0 l.length = R at hB ⊢
 rw [hR] at hB0
 refine spec_of_ir fn_slices_BinarySearchFunc_LLint_Lint_int mixm (by simp) fun e _ hst=>W_start ?_
 unfold ir_slices_BinarySearchFunc_LLint_Lint_int
 refine sW ?_
 refine W_loopF mixm (α:=Nat×Nat) [9,10] (fun p=>p.1≤p.2∧p.2≤l.length∧bsN (fun y=>decide (c y < 0)) l (l.length + 1) p.1 p.2 = R) (fun p=>[(9,vI p.1),(10,vI p.2)]) (fun p=>[]) (fun p=>p.2 - p.1) (0,l.length) ?_ ?_ fun p hp=>?_
 ·exact ⟨by simp,by simp,hR⟩
 ·exact .oA [] []
 obtain ⟨i,j⟩:=p
 obtain ⟨h1,h2,h3⟩:=hp
 dsimp only at h1 h2 h3
 rw [bsN_fuel (l.length + 1) (j - i + 1) i j (by omega) (by omega),bsN] at h3
 simp only [tZ,↓un_u,simprocAttr,decide_eq_true_eq,decide_eq_false_iff_not]
 refine ⟨fun h5=>?_,fun h5=>?_⟩
 ·have hij:i < j:=by omega
  rw [if_pos hij] at h3
  obtain ⟨h,hh,hhi,hhj⟩:∃ h:Nat,h = (i + j) / 2∧i≤h∧h < j:=⟨(i + j) / 2,rfl,by omega,by omega⟩
  rw [← hh] at h3
  have hw1:IntKind.i64.wrap ((i:Int) + (j:Int)) = ((i + j:Nat):Int):=by rw [IntWalk.i64_in _ (by omega)];omega
  have hw2:IntKind.u64.wrap ((i + j:Nat):Int) = ((i + j:Nat):Int):=IntWalk.u64_in _ (by omega)
  have hw3:shrI .u64 ((i + j:Nat):Int) 1 = (h:Int):=by
   simp only [shrI]
   rw [show (min (1:Int).toNat IntKind.u64.bits) = 1 from rfl,Int.fdiv_eq_ediv_of_nonneg _ (by decide)]
   omega
  have hw4:IntKind.i64.wrap (h:Int) = (h:Int):=IntWalk.i64_in _ (by omega)
  have hlt:h < l.length:=by omega
  have hws:=i64_succ (i:=h) (by omega)
  have hcall:=hf l[h] (List.getElem_mem hlt)
  rw [show l.getD h [] = l[h] from getD_get hlt] at h3
  simp only [tZ,↓un_u,simprocAttr,hw1,hw2,hw3,hw4,Int.toNat_natCast,getD_mapT hlt]
  refine ⟨by omega,?_⟩
  refine C1.im hcall rfl rfl ?_
  simp only [tZ,↓un_u,simprocAttr,decide_eq_true_eq,decide_eq_false_iff_not,hws]
  refine ⟨fun h6=>?_,fun h6=>?_⟩
  ·rw [if_pos (decide_eq_true h6),bsN_fuel (j - i) (l.length + 1) (h + 1) j (by omega) (by omega)] at h3
   refine ⟨(h + 1,j),⟨by simp only;omega,h2,h3⟩,by simp only;omega,?_⟩
   exact .oA [] []
  ·rw [if_neg (fun k=>h6 (of_decide_eq_true k)),bsN_fuel (j - i) (l.length + 1) i h (by omega) (by omega)] at h3
   refine ⟨(i,h),⟨by simp only;omega,by simp only;omega,h3⟩,by simp only;omega,?_⟩
   exact .oA [] []
 ·have hij:i = j:=by omega
  subst hij
  rw [if_neg (by omega)] at h3
  subst h3
  by_cases hil:i < l.length
  ·have hg:decide ((i:Int) < (l.length:Int)) = true:=by simp;omega
   have hcall:=hf l[i] (List.getElem_mem hil)
   rw [List.getElem?_eq_getElem hil,hitB]
   simp only [tZ,↓un_u,simprocAttr,hg,Int.toNat_natCast,getD_mapT hil]
   refine ⟨by omega,C2.one (by first | trivial | omega) (C1.im hcall rfl rfl ?_)⟩
   refine sW ?_
   exact .oA [] []
  ·have hg:decide ((i:Int) < (l.length:Int)) = false:=by simp;omega
   rw [List.getElem?_eq_none (by omega),hitB]
   simp only [tZ,↓un_u,simprocAttr,hg]
   refine ⟨fun h=>by omega,fun h=>by omega,C2.no (by omega) ?_⟩
   simp only [tZ,↓un_u,simprocAttr,hg,G2_none,not_false_eq_true]
   exact .oA [] []
theorem c_source_place_1 (r:List Int) (k:Int) (hr:0 < r.length):Spc Tryz.prog F_source_place_1 [vIs r,vI k] [] (vI (IntKind.i64.wrap (hd r - k))) []:=by
 have hg:=getD_hd hr
 refine spec_of_ir fn_source_place_1 mixm (by simp) fun e _ hst=>W_start ?_
 unfold ir_source_place_1
 simp only [tZ,↓un_u,simprocAttr,hg,tD]
 refine ⟨by omega,?_⟩
 exact .oA [] []
def plcN (l:List (List Int)) (id:Int):Nat:=bsN (fun y=>decide (IntKind.i64.wrap (hd y - id) < 0)) l (l.length + 1) 0 l.length
end Go.Proofs
set_option linter.unusedSimpArgs false
set_option linter.unusedVariables false
namespace Go.Proofs
open Go Go.TL
open Go.TL.So
theorem c_isNaN_I (n:Int):Spc Tryz.prog F_cmp_isNaN_int [vI n] [] (vB false) []:=by
 refine spec_of_ir fn_cmp_isNaN_int mixm (by simp) fun e _ hst=>W_start ?_
 unfold ir_cmp_isNaN_int
 simp only [tZ,↓un_u,simprocAttr,bne_self_eq_false]
 exact .oA [] []
theorem c_cmp_Less_int (a b:Int):Spc Tryz.prog F_cmp_Less_int [vI a,vI b] [] (vB (ltI a b)) []:=by
 refine spec_of_ir fn_cmp_Less_int mixm (by simp) fun e _ hst=>W_start ?_
 unfold ir_cmp_Less_int
 refine sW ?_
 refine C1.im (c_isNaN_I a) (by rfl) (by rfl) ?_
 refine sW ?_
 refine C2.no (by simp) ?_
 refine sW ?_
 exact .oA [] []
end Go.Proofs
set_option linter.unusedSimpArgs false
set_option linter.unusedVariables false
namespace Go.Proofs
open Go Go.TL
set_option maxRecDepth 4000
set_option maxHeartbeats 8000000
def idOk (n:Int):Prop:=-9223372036854775808≤n∧n < 9223372036854775808
structure RwId (l:List (List Int)):Prop where
 asc:AscR l
 pos:∀ r∈l,0 < r.length
 ids:∀ r∈l,1≤hd r∧hd r≤1048575
 len:l.length≤1000
theorem wrap_sub {a k:Int} (ha:1≤a∧a≤1048575) (hk:idOk k):(IntKind.i64.wrap (a - k) = 0↔a = k)∧(1≤k→k≤1048575→IntKind.i64.wrap (a - k) = a - k):=by
 unfold idOk at hk
 constructor
 ·rw [IntKind.wrap_i64];omega
 ·intro h1 h2
  exact IntWalk.i64_in _ (by omega)
theorem plc_fnd {l:List (List Int)} {k:Int} (h:RwId l) (hk:1≤k∧k≤1048575):plcN l k = fndN l k:=by
 have hw:∀ r∈l,IntKind.i64.wrap (hd r - k) = hd r - k:=fun r hr=>(wrap_sub (h.ids r hr) ⟨by omega,by omega⟩).2 hk.1 hk.2
 have hp:=List.pairwise_iff_getElem.1 h.asc
 unfold plcN
 rw [bsN_mono (fun i j hi hj hij e=>?_) _ 0 l.length (by omega) (by omega) (Nat.le_refl _) (fun m _ h2=>by omega) (fun m _ h2=>by omega)]
 ·unfold fndN
  have e:∀ {a b:List Int→Bool} {m:List (List Int)},(∀ y∈m,a y = b y)→m.findIdx a = m.findIdx b:=by
   intro a b m
   induction m with
   | nil=>intro _;rfl
   | cons x m ih=>
     intro h
     rw [List.findIdx_cons,List.findIdx_cons,h x (by simp),ih fun y hy=>h y (List.mem_cons_of_mem _ hy)]
  refine e fun y hy=>?_
  rw [hw y hy]
  unfold cmpK
  by_cases c:hd y - k < 0
  ·rw [decide_eq_true c,if_pos (by omega)];rfl
  ·rw [decide_eq_false c,if_neg (by omega)]
   split <;> rfl
 ·have h1:=hp i j hi hj hij
  rw [hw _ (List.getElem_mem hj)] at e
  rw [hw _ (List.getElem_mem hi)]
  have:=of_decide_eq_true e
  exact decide_eq_true (by omega)
theorem hasK_ids {l:List (List Int)} {k:Int} (h:∀ r∈l,1≤hd r∧hd r≤1048575) (hk:hasK l k = true):1≤k∧k≤1048575:=by
 obtain ⟨r,hr,e⟩:=List.any_eq_true.1 hk
 have:=h r hr
 have e:hd r = k:=by simpa using e
 omega
theorem plc_hit {l:List (List Int)} {k:Int} (h:RwId l) (hk:idOk k):hitB (fun y=>IntKind.i64.wrap (hd y - k)) l[plcN l k]? = hasK l k:=by
 have hq:∀ y,l[plcN l k]? = some y→(IntKind.i64.wrap (hd y - k) == 0) = (hd y == k):=fun y hy=>by
  have:=(wrap_sub (h.ids y (List.mem_of_getElem? hy)) hk).1
  rw [Bool.eq_iff_iff,beq_iff_eq,beq_iff_eq]
  exact this
 cases hh:hasK l k with
 | true=>
   have hr:=hasK_ids h.ids hh
   have hf:=plc_fnd h hr
   obtain ⟨hj,e⟩:=fndN_at h.asc hh
   rw [← hf] at hj
   rw [List.getElem?_eq_getElem hj]
   have h2:=hq _ (List.getElem?_eq_getElem hj)
   dsimp only [hitB]
   rw [h2]
   have:=List.find?_some e
   simp only [← hf,beq_iff_eq] at this
   rw [this]
   simp
 | false=>
   cases e:l[plcN l k]? with
   | none=>rfl
   | some y=>
     dsimp only [hitB]
     rw [hq y e]
     have:=List.any_eq_false.1 hh y (List.mem_of_getElem? e)
     simpa using this
theorem c_source_place (s:Src) (k:Int) (h:RwId s.rows) (hk:idOk k):Spc Tryz.prog F_source_place [srcT s,vI k] [] (.tup [vI (plcN s.rows k),vB (hasK s.rows k)]) []:=by
 have hl:=h.len
 have hb:=c_bs_any (fun y=>IntKind.i64.wrap (hd y - k)) k F_source_place_1 s.rows (fun y hy=>c_source_place_1 y k (h.pos y hy)) (by omega)
 have e:=plc_hit h hk
 unfold plcN at e
 rw [e] at hb
 refine spec_of_ir fn_source_place mixm (by simp) fun e _ hst=>W_start ?_
 unfold ir_source_place
 refine sW ?_
 refine C1.im hb (by rfl) (by rfl) ?_
 refine sW ?_
 exact .oA [] []
open So
theorem c_slices_isNaN_int (n:Int):Spc Tryz.prog F_slices_isNaN_int [vI n] [] (vB false) []:=by
 refine spec_of_ir fn_slices_isNaN_int mixm (by simp) fun e _ hst=>W_start ?_
 unfold ir_slices_isNaN_int
 simp only [tZ,↓un_u,simprocAttr,bne_self_eq_false]
 exact .oA [] []
theorem pickX_u {x y:T}:pickX (some (.v undef)) (some x) (some y) = none:=_root_.id rfl
def insN (l:List Int) (n:Int):Nat:=l.findIdx fun y=>decide (n≤y)
theorem c_slices_BinarySearch_int (l:List Int) (n:Int) (h:l.Pairwise fun a b=>a < b) (hl:l.length < 4611686018427387904):Spc Tryz.prog F_slices_BinarySearch_int [vIs l,vI n] [] (.tup [vI (insN l n),vB (l.contains n)]) []:=by
 have hp:=List.pairwise_iff_getElem.1 h
 refine spec_of_ir fn_slices_BinarySearch_int mixm (by simp) fun e _ hst=>W_start ?_
 unfold ir_slices_BinarySearch_int
 refine sW ?_
 refine W_loopF mixm (α:=Nat×Nat) [7,8] (fun p=>p.1≤p.2∧p.2≤l.length∧(∀ (m:Nat) (h:m < l.length),m < p.1→l[m] < n)∧(∀ (m:Nat) (h:m < l.length),p.2≤m→¬ l[m] < n)) (fun p=>[(7,vI p.1),(8,vI p.2)]) (fun p=>[]) (fun p=>p.2 - p.1) (0,l.length) ?_ ?_ fun p hp=>?_
 ·exact ⟨by simp,by simp,fun m h h2=>absurd h2 (by simp),fun m h h2=>absurd h2 (by simp only;omega)⟩
 ·exact .oA [] []
 obtain ⟨i,j⟩:=p
 obtain ⟨h1,h2,h3,h4⟩:=hp
 dsimp only at h1 h2 h3 h4
 simp only [tZ,↓un_u,simprocAttr,decide_eq_true_eq,decide_eq_false_iff_not]
 refine ⟨fun h5=>?_,fun h5=>?_⟩
 ·have hij:i < j:=by omega
  obtain ⟨h,hh,hhi,hhj⟩:∃ h:Nat,h = (i + j) / 2∧i≤h∧h < j:=⟨(i + j) / 2,rfl,by omega,by omega⟩
  have hw1:IntKind.i64.wrap ((i:Int) + (j:Int)) = ((i + j:Nat):Int):=by rw [IntWalk.i64_in _ (by omega)];omega
  have hw2:IntKind.u64.wrap ((i + j:Nat):Int) = ((i + j:Nat):Int):=IntWalk.u64_in _ (by omega)
  have hw3:shrI .u64 ((i + j:Nat):Int) 1 = (h:Int):=by
   simp only [shrI]
   rw [show (min (1:Int).toNat IntKind.u64.bits) = 1 from rfl,Int.fdiv_eq_ediv_of_nonneg _ (by decide)]
   omega
  have hw4:IntKind.i64.wrap (h:Int) = (h:Int):=IntWalk.i64_in _ (by omega)
  have hlt:h < l.length:=by omega
  have hws:=i64_succ (i:=h) (by omega)
  have hcall:=c_cmp_Less_int l[h] n
  simp only [tZ,↓un_u,simprocAttr,hw1,hw2,hw3,hw4,Int.toNat_natCast,getD_mapT hlt]
  refine ⟨by omega,?_⟩
  refine C1.im hcall (by rfl) (by rfl) ?_
  simp only [tZ,↓un_u,simprocAttr,decide_eq_true_eq,decide_eq_false_iff_not,hws,ltI]
  refine ⟨fun h6=>?_,fun h6=>?_⟩
  ·refine ⟨(h + 1,j),⟨by simp only;omega,h2,fun m hm1 hm2=>?_,h4⟩,by simp only;omega,?_⟩
   ·by_cases hmh:m = h
    ·subst hmh;exact h6
    ·have:=hp m h hm1 hlt (by simp only at hm2;omega);omega
   ·exact .oA [] []
  ·refine ⟨(i,h),⟨by simp only;omega,by simp only;omega,h3,fun m hm1 hm2 hm3=>?_⟩,by simp only;omega,?_⟩
   ·by_cases hmh:m = h
    ·subst hmh;exact h6 hm3
    ·have:=hp h m hlt hm1 (by simp only at hm2;omega);omega
   ·exact .oA [] []
 ·have hij:i = j:=by omega
  subst hij
  have hfi:insN l n = i:=by
   unfold insN
   by_cases hil:i < l.length
   ·refine findIdx_at hil ?_ (by have:=h4 i hil (Nat.le_refl _);simp;omega)
    rw [List.any_eq_false]
    intro y hy
    obtain ⟨m,hm1,rfl⟩:=List.getElem_of_mem hy
    rw [List.length_take] at hm1
    rw [List.getElem_take]
    have:=h3 m (by omega) (by omega)
    simp;omega
   ·have:i = l.length:=by omega
    subst this
    rw [List.findIdx_eq_length]
    intro y hy
    obtain ⟨m,hm1,rfl⟩:=List.getElem_of_mem hy
    have:=h3 m hm1 hm1
    simp;omega
  rw [hfi]
  by_cases hil:i < l.length
  ·have hg:decide ((i:Int) < (l.length:Int)) = true:=by simp;omega
   have hct:l.contains n = (l[i] == n):=by
    rw [Bool.eq_iff_iff,List.contains_iff_mem,beq_iff_eq]
    constructor
    ·intro hm
     obtain ⟨m,hm1,rfl⟩:=List.getElem_of_mem hm
     by_cases c1:m < i
     ·have:=h3 m hm1 c1;omega
     ·by_cases c2:i < m
      ·have:=hp i m hil hm1 c2
       have:=h4 i hil (Nat.le_refl _)
       omega
      ·have:i = m:=by omega
       subst this;rfl
    ·intro e;rw [← e];exact List.getElem_mem hil
   rw [hct]
   have hnn:=c_slices_isNaN_int l[i]
   simp only [tZ,↓un_u,simprocAttr,hg,Int.toNat_natCast,getD_mapT hil]
   refine ⟨fun _=>by omega,fun _=>by omega,?_⟩
   refine C2.im (fun _=>hnn) (fun _=>rfl) (by rfl) ?_
   refine sW ?_
   refine C2.im (fun _=>c_slices_isNaN_int n) (fun _=>rfl) (by rfl) ?_
   refine sW ?_
   exact .oA [] []
  ·have hg:decide ((i:Int) < (l.length:Int)) = false:=by simp;omega
   have hct:l.contains n = false:=by
    cases e:l.contains n with
    | false=>rfl
    | true=>
      obtain ⟨m,hm1,rfl⟩:=List.getElem_of_mem (List.contains_iff_mem.1 e)
      have:=h3 m hm1 (by omega)
      omega
   rw [hct]
   have hj:(l.map vI).getD i T.junk = T.junk:=by rw [List.getD_eq_getElem?_getD,List.getElem?_eq_none (by rw [List.length_map];omega)];rfl
   simp only [tZ,↓un_u,simprocAttr,hg,Int.toNat_natCast,hj]
   refine ⟨fun h=>by omega,by omega,?_⟩
   simp only [tZ,↓un_u,simprocAttr,hg,labE_u]
   refine C2.no (fun h=>h) ?_
   simp only [tZ,↓un_u,simprocAttr,hg,labE_u]
   refine C2.no (fun h=>h) ?_
   simp only [tZ,↓un_u,simprocAttr,hg,labE_u,pickX_u,G2_none,not_false_eq_true,true_and]
   exact .oA [] []
end Go.Proofs
set_option linter.unusedSimpArgs false
set_option linter.unusedVariables false
namespace Go.Proofs
open Go Go.TL
set_option maxRecDepth 4000
set_option maxHeartbeats 8000000
theorem srcB_no {s:Src} (h:SrcOk s→False):srcB s = false:=by
 cases e:srcB s with
 | false=>rfl
 | true=>exact (h (srcB_ok.1 e)).elim
theorem c_source_Valid (s:Src) (hn:s.sch.cols.length < 4611686018427387904) (hl:s.sch.lists.length < 4611686018427387904) (hr:∀ r∈s.rows,r.length < 4611686018427387904):Spc Tryz.prog F_source_Valid [srcT s] [] (vB (srcB s)) []:=by
 have hC:=c_schema_Check s.sch hn hl
 refine spec_of_ir fn_source_Valid mixm (by simp) fun e _ hst=>W_start ?_
 unfold ir_source_Valid
 refine sW ?_
 refine C1.im hC (by rfl) (by rfl) ?_
 simp only [tZ,↓un_u,simprocAttr,tD,bne_iff_ne,bne_eq_false_iff_eq]
 refine ⟨fun h=>?_,fun h=>?_⟩
 ·rw [srcB_no fun k=>by have h1:=k.sch;have h2:=k.nr;have h3:=k.ng;have h4:=k.ver;omega]
  exact .oA [] []
 refine W_loopF mixm (α:=Nat) [38] (fun i=>i≤s.gone.length∧∀ j,j < i→(1≤s.gone.getD j 0∧s.gone.getD j 0≤1048575)∧asc2 s.gone j = true) (fun i=>[(38,vI i)]) (fun i=>[(4096,.arr 5 [srcT s] false)]) (fun i=>s.gone.length - i) 0 ⟨by omega,fun j h=>by omega⟩ ?_ fun i hi=>?_
 ·exact .oA [(4096,some 4096)] []
 obtain ⟨i1,i2⟩:=hi
 refine sD ?_
 refine ⟨fun h2=>?_,fun h2=>?_⟩
 ·have hi2:i < s.gone.length:=by omega
  have hwi:=i64_succ (i:=i) (by omega)
  have hg:s.gone.getD i 0 = s.gone[i]:=getD_get hi2
  obtain ⟨k,hk1,hk2,hk3⟩:∃ k:Nat,(IntKind.i64.wrap ((i:Int) - 1)).toNat = k∧k < s.gone.length∧(i = 0∧k = 0∨0 < i∧k + 1 = i∧IntKind.i64.wrap ((i:Int) - 1) = k):=by
   rcases Nat.eq_zero_or_pos i with h0 | h0
   ·subst h0
    exact ⟨0,by decide,hi2,.inl ⟨rfl,rfl⟩⟩
   ·have e:=i64_pred h0 (show i < 4611686018427387904 by omega)
    exact ⟨i - 1,by rw [e];omega,by omega,.inr ⟨h0,by omega,e⟩⟩
  have hgq:s.gone.getD k 0 = s.gone[k]:=getD_get hk2
  simp only [tZ,↓un_u,simprocAttr,Int.toNat_natCast,getD_mapT hi2,hk1,getD_mapT hk2,hwi,gt_iff_lt,tD]
  refine ⟨by omega,fun _=>by omega,fun h3=>?_,fun h3=>?_⟩
  ·rw [srcB_no fun w=>by
    have h4:=w.gone _ (List.getElem_mem hi2)
    rcases hk3 with ⟨h5,_⟩ | ⟨h5,h6,_⟩
    ·omega
    ·have h7:=List.pairwise_iff_getElem.1 w.gasc k i hk2 hi2 (by omega)
     omega]
   exact .oA [] []
  ·refine ⟨i + 1,⟨by omega,fun j hj=>?_⟩,by omega,?_⟩
   ·by_cases e:j = i
    ·subst e
     rw [hg]
     refine ⟨by omega,?_⟩
     unfold asc2
     rw [Bool.or_eq_true,decide_eq_true_eq,decide_eq_true_eq]
     rcases hk3 with ⟨h5,_⟩ | ⟨h5,h6,_⟩
     ·exact .inl h5
     ·rw [hg,show j - 1 = k by omega,hgq]
      omega
    ·exact i2 j (by omega)
   ·exact .oA [(4096,some 4096)] []
 have hil:i = s.gone.length:=by omega
 subst hil
 have hgasc:s.gone.Pairwise fun a b=>a < b:=by
  refine pw_of (f:=fun x:Int=>x) fun i h0 hi=>?_
  have:=(i2 i hi).2
  unfold asc2 at this
  simp only [Bool.or_eq_true,decide_eq_true_eq] at this
  exact this.resolve_left (by omega)
 have hgin:∀ g∈s.gone,1≤g∧g≤1048575:=fun g hg=>by
  obtain ⟨j,hj,rfl⟩:=List.getElem_of_mem hg
  have:=(i2 j hj).1
  rwa [show s.gone.getD j 0 = s.gone[j] from getD_get hj] at this
 have h0:schE s.sch = 0:=by omega
 have hok:=schE_ok h0
 have hnc:=hok.nc
 refine W_loopF mixm (α:=Nat) [67] (fun i=>i≤s.rows.length∧∀ j,j < i→rowE s.sch (s.rows.getD j default) = 0∧(0 < j→hd (s.rows.getD (j - 1) default) < hd (s.rows.getD j default))∧s.gone.contains (hd (s.rows.getD j default)) = false) (fun i=>[(67,vI i)]) (fun i=>[(4096,.arr 5 [srcT s] false)]) (fun i=>s.rows.length - i) 0 ⟨by omega,fun j h=>by omega⟩ ?_ fun i hi=>?_
 ·exact .oA [(4096,some 4096)] []
 obtain ⟨j1,j2⟩:=hi
 refine sD ?_
 refine ⟨fun h2=>?_,fun h2=>?_⟩
 ·have hi2:i < s.rows.length:=by omega
  have hwi:=i64_succ (i:=i) (by omega)
  have hg:s.rows.getD i default = s.rows[i]:=getD_get hi2
  have hF:=c_schema_Fits s.sch h0 s.rows[i] (hr _ (List.getElem_mem hi2))
  have hB:=c_slices_BinarySearch_int s.gone (hd s.rows[i]) hgasc (by omega)
  simp only [tZ,↓un_u,simprocAttr,Int.toNat_natCast,getD_mapT hi2]
  refine ⟨by omega,?_⟩
  obtain ⟨k,hk1,hk2,hk3⟩:∃ k:Nat,(IntKind.i64.wrap ((i:Int) - 1)).toNat = k∧k < s.rows.length∧(i = 0∧k = 0∨0 < i∧k + 1 = i∧IntKind.i64.wrap ((i:Int) - 1) = k):=by
   rcases Nat.eq_zero_or_pos i with h0 | h0
   ·subst h0
    exact ⟨0,by decide,hi2,.inl ⟨rfl,rfl⟩⟩
   ·have e:=i64_pred h0 (show i < 4611686018427387904 by omega)
    exact ⟨i - 1,by rw [e];omega,by omega,.inr ⟨h0,by omega,e⟩⟩
  by_cases hp:0 < s.rows[i].length
  ·have hgi:=getD_hd hp
   have hgk:s.rows.getD k default = s.rows[k]:=getD_get hk2
   have hpk:0 < s.rows[k].length:=by
    rcases hk3 with ⟨rfl,rfl⟩ | ⟨h5,h6,_⟩
    ·exact hp
    ·have:=(j2 k (by omega)).1
     rw [hgk] at this
     exact row_pos this
   have hgi2:=getD_hd hpk
   refine C1.im hF (by rfl) (by rfl) ?_
   simp only [tZ,↓un_u,simprocAttr,Int.toNat_natCast,hk1,getD_mapT hk2,hgi,hgi2,tD,gt_iff_lt,Bool.not_eq_true',Bool.not_eq_false',beq_iff_eq,beq_eq_false_iff_ne]
   refine ⟨fun _=>by omega,fun _=>by omega,fun _=>by omega,by kernel_rfl,fun h3=>?_,fun h3=>?_⟩
   ·rw [srcB_no fun w=>by
     have h4:=w.rows _ (List.getElem_mem hi2)
     rcases hk3 with ⟨h5,_⟩ | ⟨h5,h6,_⟩
     ·omega
     ·have h7:=List.pairwise_iff_getElem.1 w.asc k i hk2 hi2 (by omega)
      omega]
    exact .oA [] []
   have hE:rowE s.sch s.rows[i] = 0:=h3.1
   refine ⟨by omega,?_⟩
   refine C1.im hB (by rfl) (by rfl) ?_
   refine sW ?_
   refine ⟨by kernel_rfl,fun h8=>?_,fun h8=>?_⟩
   ·rw [srcB_no fun w=>by
     have h4:=(w.gone _ (List.contains_iff_mem.1 h8)).2.2
     have h5:=findR_neg.1 h4 _ (List.getElem_mem hi2)
     rw [atR_ok hE] at h5
     simp at h5]
    exact .oA [] []
   ·simp only [tZ,↓un_u,simprocAttr,hwi]
    refine ⟨i + 1,⟨by omega,fun j hj=>?_⟩,by omega,?_⟩
    ·by_cases e:j = i
     ·subst e
      rw [hg]
      refine ⟨hE,fun h0=>?_,h8⟩
      rcases hk3 with ⟨h5,_⟩ | ⟨h5,h6,_⟩
      ·omega
      ·rw [show j - 1 = k by omega,hgk]
       omega
     ·exact j2 j (by omega)
    ·exact .oA [(4096,some 4096)] []
  ·have hv:(rowE s.sch s.rows[i] == 0) = false:=beq_eq_false_iff_ne.2 fun e=>hp (row_pos e)
   have hn:s.rows[i] = []:=List.length_eq_zero_iff.1 (by omega)
   rw [hv,hn] at hF
   rw [hn]
   refine C1.im hF (by rfl) (by rfl) ?_
   simp only [tZ,↓un_u,simprocAttr,Int.toNat_natCast,hk1,getD_mapT hk2,labE_u,pickX_u,G2_none,not_false_eq_true,true_and]
   refine ⟨by kernel_rfl,?_⟩
   rw [srcB_no fun w=>hp (row_pos (w.rows _ (List.getElem_mem hi2)))]
   exact .oA [] []
 ·have hil:i = s.rows.length:=by omega
  subst hil
  have hk:SrcOk s:=by
   refine ⟨h0,by omega,by omega,by omega,fun r hr=>?_,?_,fun g hg=>?_,hgasc⟩
   ·obtain ⟨j,hj,rfl⟩:=List.getElem_of_mem hr
    have:=(j2 j hj).1
    rwa [show s.rows.getD j default = s.rows[j] from getD_get hj] at this
   ·exact pw_of (f:=hd) fun i h0 hi=>(j2 i hi).2.1 h0
   ·obtain ⟨g1,g2⟩:=hgin g hg
    refine ⟨g1,g2,findR_neg.2 fun r hr=>?_⟩
    obtain ⟨j,hj,rfl⟩:=List.getElem_of_mem hr
    have h4:=j2 j hj
    rw [show s.rows.getD j default = s.rows[j] from getD_get hj] at h4
    rw [atR_ok h4.1]
    cases e:hd s.rows[j] == g with
    | false=>rfl
    | true=>
      rw [beq_iff_eq] at e
      rw [e,List.contains_iff_mem.2 hg] at h4
      cases h4.2.2
  rw [srcB_ok.2 hk]
  exact .oA [] []
end Go.Proofs
set_option linter.unusedSimpArgs false
set_option linter.unusedVariables false
namespace Go.Proofs
open Go Go.TL
set_option maxRecDepth 4000
set_option maxHeartbeats 8000000
open So
end Go.Proofs
