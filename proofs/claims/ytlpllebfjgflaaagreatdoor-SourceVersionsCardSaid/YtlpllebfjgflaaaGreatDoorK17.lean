/- A part of the proof: trees of Go values, short forms, contracts. -/
import Derived.WalkKit
import Derived.Still
import Derived.MapKept
import GoSem.Builtin.Cap
import Derived.Laws.Externs
import GoSem.Extern.SlicesOverlaps
import Derived.Carry
import Derived.ProofKit
import Derived.OpenShut
import Derived.HandedShaped
import Derived.Lay
import Derived.LaidLaws
import Derived.MakeChecks
import Derived.SevenTiedAt
import Derived.Test.YtlpllebfjgflaaaGreatDoorChecked
import Derived.Test.YtlpllebfjgflaaaGreatDoorK16
set_option linter.unusedSimpArgs false
set_option linter.unusedVariables false
namespace Go.Proofs
open Go Go.TL
set_option maxRecDepth 4000
set_option maxHeartbeats 8000000
theorem lvs_leaf {cs:List Cod}:∀ {n:Nat} {v:Int},lvs cs n = some v→∀ j,j < n→leafC cs j = true→(dep cs j:Int) = v
 | 0,_,_,j,h,_=>by omega
 | n + 1,v,h,j,hj,hl=>by
   rw [lvs_succ] at h
   cases e:lvs cs n with
   | none=>rw [e] at h;cases h
   | some w=>
     rw [e] at h
     have ih:=fun k hk h2=>lvs_leaf e k hk h2
     unfold lvS at h
     dsimp only at h
     split at h
     ·split at h
      ·cases h
      ·rename_i h2
       have hv:(dep cs n:Int) = v:=by simpa using h
       by_cases e2:j = n
       ·rw [e2];exact hv
       ·have:=ih j (by omega) hl
        omega
     ·rename_i h2
      have hv:w = v:=by simpa using h
      by_cases e2:j = n
      ·rw [e2] at hl;exact absurd hl h2
      ·have:=ih j (by omega) hl
       omega
theorem leaf_iff {cs:List Cod} {c:Nat}:leafC cs c = true↔∀ i,i < cs.length→parC cs i≠c:=by
 unfold leafC
 rw [Bool.not_eq_true',List.any_eq_false]
 constructor
 ·intro h i hi e
  have:=h cs[i] (List.getElem_mem hi)
  rw [parC,cdAt,getD_get hi] at e
  simp [e] at this
 ·intro h x hx
  obtain ⟨i,hi,rfl⟩:=List.getElem_of_mem hx
  have:=h i hi
  rw [parC,cdAt,getD_get hi] at this
  simpa using this
theorem lstE_lvs {l:CodL} (h:lstE l = 0):∃ v,lvs l.codes l.codes.length = some v:=by
 unfold lstE at h
 split at h
 ·cases h
 ·split at h
  ·cases h
  ·split at h
   ·cases h
   ·split at h
    ·rename_i h2;exact absurd h h2
    ·split at h
     ·cases h
     ·rename_i v e;exact ⟨v,e⟩
theorem leaf_dep {l:CodL} (h:lstE l = 0) {c:Nat} (hc:c < l.codes.length):leafC l.codes c = true↔(dep l.codes c:Int) = lvlsL l - 1:=by
 obtain ⟨hp,h1,h2⟩:=lstE_par h
 obtain ⟨v,hv⟩:=lstE_lvs h
 have hlast:leafC l.codes (l.codes.length - 1) = true:=leaf_iff.2 fun i hi e=>by
  have:=(hp i hi).2
  omega
 have hlv:=lvs_leaf hv (l.codes.length - 1) (by omega) hlast
 have hL:lvlsL l - 1 = v:=by rw [lvlsL,if_neg (by rw [h];simp)];omega
 have hall:∀ k c,l.codes.length - c = k→c < l.codes.length→(dep l.codes c:Int)≤v∧(leafC l.codes c = false→(dep l.codes c:Int) < v):=by
  intro k
  induction k using Nat.strongRecOn with
  | _ k ih=>
    intro c hk hc
    cases hl:leafC l.codes c with
    | true=>
      have:=lvs_leaf hv c hc hl
      exact ⟨by omega,fun e=>by cases e⟩
    | false=>
      have hn:¬ ∀ i,i < l.codes.length→parC l.codes i≠c:=fun k=>by rw [leaf_iff.2 k] at hl;cases hl
      simp only [Classical.not_forall] at hn
      obtain ⟨i,hi,hn⟩:=hn
      have hpc:parC l.codes i = c:=Classical.byContradiction hn
      have h3:=hp i hi
      have h4:=dep_kid hp hi (by omega)
      rw [hpc,Int.toNat_natCast] at h4
      have h5:=ih (l.codes.length - i) (by omega) i rfl hi
      have:=h5.1
      exact ⟨by omega,fun _=>by omega⟩
 have:=hall _ c rfl hc
 rw [hL]
 cases hl:leafC l.codes c with
 | true=>exact ⟨fun _=>lvs_leaf hv c hc hl,fun _=>rfl⟩
 | false=>
   have:=this.2 hl
   exact ⟨(by intro e;cases e),fun e=>by omega⟩
theorem c_slices_IndexFunc_Code (p:Cod→Bool) (f:FuncId) (caps:List T) (hcap:imL caps = true) (l:List Cod) (hf:∀ y∈l,Spc Tryz.prog f (codT y :: caps) [] (vB (p y)) []) (hl:l.length < 4611686018427387904) :
 Spc Tryz.prog F_slices_IndexFunc_Code [.sl 2 (l.map codT),.clo f caps] [] (vI (idxI p l)) []:=by
 refine spec_of_ir fn_slices_IndexFunc_Code mixm (by simp) fun e _ hst=>W_start ?_
 unfold ir_slices_IndexFunc_Code
 refine sW ?_
 refine W_loopF mixm (α:=Nat) [8] (fun i=>i≤l.length∧((l.take i).any p = false)) (fun i=>[(8,vI i)]) (fun i=>[]) (fun i=>l.length - i) 0 ⟨by omega,?_⟩ ?_ fun i hi=>?_
 ·simp
 ·exact .oA [] []
 simp only [tZ,↓un_u,simprocAttr,decide_eq_true_eq,decide_eq_false_iff_not]
 refine ⟨fun h=>?_,fun h=>?_⟩
 ·have hi2:i < l.length:=by omega
  have hwi:=i64_succ (i:=i) (by omega)
  simp only [tZ,↓un_u,simprocAttr,Int.toNat_natCast,getD_mapT hi2,hwi,cells_v]
  refine ⟨by omega,?_⟩
  refine C1.im (hf l[i] (List.getElem_mem hi2)) (imAL_cons rfl hcap) rfl ?_
  refine sW ?_
  refine ⟨fun h3=>?_,fun h3=>⟨i + 1,⟨by omega,any_snoc hi2 hi.2 h3⟩,by omega,?_⟩⟩
  ·rw [idxI,if_pos (any_at hi2 h3),findIdx_at hi2 hi.2 h3]
   exact .imR rfl rfl
  ·exact .oA [] []
 ·have h2:i = l.length:=by omega
  have h3:=hi.2
  rw [h2,List.take_length] at h3
  rw [idxI,if_neg (by rw [h3];simp)]
  exact .imR rfl rfl
theorem c_slices_ContainsFunc_Code (p:Cod→Bool) (f:FuncId) (caps:List T) (hcap:imL caps = true) (l:List Cod) (hf:∀ y∈l,Spc Tryz.prog f (codT y :: caps) [] (vB (p y)) []) (hl:l.length < 4611686018427387904) :
 Spc Tryz.prog F_slices_ContainsFunc_Code [.sl 2 (l.map codT),.clo f caps] [] (vB (l.any p)) []:=by
 refine spec_of_ir fn_slices_ContainsFunc_Code mixm (by simp) fun e _ hst=>W_start ?_
 unfold ir_slices_ContainsFunc_Code
 refine sW ?_
 refine C1.im (c_slices_IndexFunc_Code p f caps hcap l hf hl) (imAL_clo rfl hcap) rfl ?_
 refine sW ?_
 rw [show decide (idxI p l≥0) = l.any p from idxI_ge p l]
 exact .imR rfl rfl
theorem c_schema_fits_1 (x:Cod) (v:Int):Spc Tryz.prog F_schema_fits_1 [codT x,.ip [vI v]] [] (vB (x.par == v)) []:=by
 refine spec_of_ir fn_schema_fits_1 mixm (by simp) fun e _ hst=>W_start ?_
 unfold ir_schema_fits_1
 refine sW ?_
 exact .oA [] []
theorem fits_code {l:CodL} (h:lstE l = 0) (v:Int):(decide (0≤v) && decide (v < l.codes.length) && !(l.codes.any fun x=>x.par == v)) = (inB v 0 (l.codes.length - 1) && (lvlC l v == lvlsL l - 1)):=by
 unfold inB
 by_cases h0:0≤v∧v < l.codes.length
 ·obtain ⟨c,rfl⟩:=Int.eq_ofNat_of_zero_le h0.1
  have hc:c < l.codes.length:=by omega
  have h1:lvlC l c = dep l.codes c:=by rw [lvlC,if_neg (by rw [h];simp;omega),Int.toNat_natCast]
  rw [decide_eq_true h0.1,decide_eq_true h0.2,decide_eq_true (show (c:Int)≤(l.codes.length:Int) - 1 by omega),h1]
  simp only [Bool.true_and]
  rw [Bool.eq_iff_iff,beq_iff_eq,← leaf_dep h hc]
  rfl
 ·by_cases h1:0≤v
  ·rw [decide_eq_true h1,decide_eq_false (show ¬ v < l.codes.length by omega),decide_eq_false (show ¬ v≤(l.codes.length:Int) - 1 by omega)]
   rfl
  ·rw [decide_eq_false h1]
   rfl
theorem c_schema_fits (s:Sch) (h:SchOk s) (i:Nat) (hi:i < s.cols.length) (v:Int):Spc Tryz.prog F_schema_fits [schT s,colT s.cols[i],vI v] [] (vB (holdsB s i v)) []:=by
 have hat:colAt s i = s.cols[i]:=by rw [colAt,getD_get hi]
 have hk:=colE_kind (h.cs i hi)
 have hcd:=fun e=>h.cdl hi e
 have hE:holdsB s i v = if s.cols[i].kind = 1 then inB v 1 1048575
  else if s.cols[i].kind = 2 then inB v 0 ((cdlAt s i).codes.length - 1) && (lvlC (cdlAt s i) v == lvlsL (cdlAt s i) - 1)
  else (s.cols[i].opt && (v == missI)) || inB v s.cols[i].low s.cols[i].high:=by rw [holdsB,hat]
 have hcl:cdlAt s i = s.lists.getD s.cols[i].list.toNat default:=by rw [cdlAt,hat]
 rw [hat] at hk hcd
 rw [hE]
 rw [hcl] at hcd ⊢
 generalize s.cols[i] = c at hk hcd ⊢
 refine spec_of_ir fn_schema_fits mixm (by simp) fun e _ hst=>W_start ?_
 unfold ir_schema_fits
 refine sW ?_
 simp only [tZ,↓un_u,simprocAttr,beq_iff_eq,beq_eq_false_iff_ne]
 refine ⟨fun h1=>?_,fun h1=>⟨fun h2=>?_,fun h2=>?_⟩⟩
 ·rw [if_pos h1,show inB v 1 1048575 = (decide (1≤v) && decide (v≤1048575)) from rfl]
  exact .oA [] []
 ·obtain ⟨d1,d2⟩:=hcd h2
  obtain ⟨d3,d4⟩:=hk.2.2.2.1 h2
  have hgl:s.lists.getD c.list.toNat default = s.lists[c.list.toNat]:=getD_get d1
  rw [if_neg h1,if_pos h2]
  rw [hgl] at d2 ⊢
  obtain ⟨_,d5,d6⟩:=lstE_par d2
  simp only [tZ,↓un_u,simprocAttr,getD_mapT d1]
  generalize s.lists[c.list.toNat] = l at d2 d5 d6 ⊢
  have hCF:=c_slices_ContainsFunc_Code (fun x=>x.par == v) F_schema_fits_1 [.ip [vI v]] rfl l.codes (fun x _=>c_schema_fits_1 x v) (by omega)
  refine ⟨by omega,?_⟩
  refine C2.lend [4104] (fun _=>hCF) (fun _=>?_) (by rfl) (by rfl) ?_
  ·all_goals (try simp only [tL,simprocAttr,List.map_append,List.map_cons,List.map_nil,List.cons_append,List.nil_append])
   all_goals (try (repeat' (first | exact ltXs_nil | (apply ltXs_map;intro _;exact ⟨rfl,rfl⟩) | (apply imXs_map;intro _;exact ⟨rfl,rfl⟩) | with_reducible apply imXs_append | with_reducible refine imXs_cons ⟨rfl,rfl⟩ ?_ | exact imXs_nil | with_reducible apply ltXs_append | with_reducible refine ltXs_cons ⟨rfl,rfl,?_⟩ ?_ | with_reducible apply And.intro | exact ltCs_im rfl | exact ltCs_im (by assumption) | (refine ⟨⟨?_,rfl,?_,rfl,?_⟩,trivial⟩ <;> first | (simp;done) | (apply imXs_map;intro _;exact ⟨rfl,rfl⟩)) | trivial | rfl | (rw [i64_succ (by omega)]) | omega)))
   simp only [ltP]
   exact ⟨rfl,by decide,rfl,imXs_cons ⟨rfl,rfl⟩ imXs_nil⟩
  refine sW ?_
  rw [← fits_code d2 v]
  exact .oA [] []
 ·rw [if_neg h1,if_neg h2,Bool.or_comm,show inB v c.low c.high = (decide (c.low≤v) && decide (v≤c.high)) from rfl]
  rw [show (c.opt && v == missI) = (c.opt && v == -1099511627776) from rfl]
  exact .oA [] []
theorem c_schema_Fits (s:Sch) (h0:schE s = 0) (row:List Int) (hr:row.length < 4611686018427387904):Spc Tryz.prog F_schema_Fits [schT s,vIs row] [] (vB (rowE s row == 0)) []:=by
 have hok:=schE_ok h0
 have hnc:=hok.nc
 refine spec_of_ir fn_schema_Fits mixm (by simp) fun e _ hst=>W_start ?_
 unfold ir_schema_Fits
 simp only [tZ,↓un_u,simprocAttr,tD,bne_iff_ne,bne_eq_false_iff_eq]
 refine ⟨fun h2=>?_,fun h2=>?_⟩
 ·have:rowE s row = 9:=by rw [rowE,if_neg (by rw [h0];simp),if_pos (by omega)]
  rw [this]
  exact .oA [] []
 refine W_loopF mixm (α:=Nat) [16] (fun i=>i≤s.cols.length∧(∀ j,j < i→holdsB s j (row.getD j 0) = true)) (fun i=>[(16,vI i)]) (fun i=>[(4096,.arr 2 [schT s] false)]) (fun i=>s.cols.length - i) 0 ⟨by omega,?_⟩ ?_ fun i hi=>?_
 ·intro j hj;omega
 ·exact .oA [(4096,some 4096)] []
 simp only [tZ,↓un_u,simprocAttr,decide_eq_true_eq,decide_eq_false_iff_not]
 refine ⟨fun h=>?_,fun h=>?_⟩
 ·have hi2:i < s.cols.length:=by omega
  have hi3:i < row.length:=by omega
  have hwi:=i64_succ (i:=i) (by omega)
  have hF:=c_schema_fits s hok i hi2 row[i]
  simp only [tZ,↓un_u,simprocAttr,Int.toNat_natCast,getD_mapT hi2,getD_mapT hi3,hwi]
  refine ⟨by omega,by omega,?_⟩
  refine C1.im hF (by rfl) (by rfl) ?_
  simp only [tZ,↓un_u,simprocAttr,Bool.not_eq_true',Bool.not_eq_false']
  refine ⟨by kernel_rfl,fun h3=>?_,fun h3=>?_⟩
  ·rw [rowE_bad h0 (by omega) hi3 h3]
   exact .oA [] []
  ·refine ⟨i + 1,⟨by omega,fun j hj=>?_⟩,by omega,?_⟩
   ·by_cases e:j = i
    ·rw [e,getD_get hi3];exact h3
    ·exact hi.2 j (by omega)
   ·exact .oA [(4096,some 4096)] []
 ·have hil:i = s.cols.length:=by omega
  rw [rowE_of h0 (by omega) (fun j hj=>hi.2 j (by omega))]
  exact .oA [] []
end Go.Proofs
set_option linter.unusedSimpArgs false
set_option linter.unusedVariables false
namespace Go.Proofs
open Go Go.TL
namespace Cnd
mutual
theorem ind' {p:Cnd→Prop} (h:∀ c,(∀ k∈c.kids,p k)→p c):∀ c,p c
 | .mk _ _ _ _ _ ks=>h _ (inds h ks)
theorem inds {p:Cnd→Prop} (h:∀ c,(∀ k∈c.kids,p k)→p c):∀ ks:List Cnd,∀ k∈ks,p k
 | [],_,hk=>absurd hk (by simp)
 | x :: r,k,hk=>by
   rcases List.mem_cons.1 hk with e | hk
   ·rw [e];exact ind' h x
   ·exact inds h r k hk
end
end Cnd
mutual
def cntC:Cnd→Int→Int
 | .mk _ _ _ _ _ ks,m=>cntCs ks m 1
def cntCs:List Cnd→Int→Int→Int
 | [],_,n=>n
 | k :: r,m,n=>if n < m then cntCs r m (n + cntC k (m - n)) else n
end
mutual
def depC:Cnd→Nat
 | .mk _ _ _ _ _ ks=>depCs ks + 1
def depCs:List Cnd→Nat
 | []=>0
 | k :: r=>max (depC k) (depCs r)
end
def isB (s:Sch) (col kind:Int):Bool:=decide (0≤col) && decide (col < s.cols.length) && ((colAt s col.toNat).kind == kind)
def arC (op:Int):Nat:=if op = 5∨op = 6 then 2 else if op = 7 then 1 else 0
def ndE (s:Sch) (c:Cnd):Int:=
 if c.op < 1∨7 < c.op then 4
 else if c.kids.length≠arC c.op∨(c.op≠2∧c.op≠3∧c.op≠4∧c.col≠0)∨(c.op≠2∧c.code≠0)∨(c.op≠3∧(c.lo≠0∨c.hi≠0)) then 11
 else if (c.op = 2∧isB s c.col 2 = false)∨(c.op = 3∧isB s c.col 3 = false)∨(c.op = 4∧(isB s c.col 3 = false∨(colAt s c.col.toNat).opt = false)) then 7
 else if c.op = 2∧(c.code < 0∨c.code≥(cdlAt s c.col.toNat).codes.length) then 6
 else if c.op = 3∧(c.lo < -1000000∨c.hi > 1000000∨c.lo > c.hi) then 2 else 0
mutual
def nodE (s:Sch):Cnd→Int
 | .mk op col code lo hi ks=>if ndE s (.mk op col code lo hi ks)≠0 then ndE s (.mk op col code lo hi ks) else nodEs s ks
def nodEs (s:Sch):List Cnd→Int
 | []=>0
 | k :: r=>if nodE s k≠0 then nodE s k else nodEs s r
end
def chkC (s:Sch) (c:Cnd):Int:=if schE s≠0 then schE s else if cntC c 41 > 40 then 1 else if depC c > 10 then 22 else nodE s c
structure NdOk (s:Sch) (c:Cnd):Prop where
 op:1≤c.op∧c.op≤7
 nk:c.kids.length = arC c.op
 under:c.op = 2→isB s c.col 2 = true∧0≤c.code∧c.code < (cdlAt s c.col.toNat).codes.length
 between:c.op = 3→isB s c.col 3 = true∧-1000000≤c.lo∧c.hi≤1000000∧c.lo≤c.hi
 miss:c.op = 4→isB s c.col 3 = true∧(colAt s c.col.toNat).opt = true
def isAt (c:Cnd):Bool:=(c.op == 2) || (c.op == 3) || (c.op == 4)
def tf (b:Bool):Int:=if b then 1 else -1
def atomI (s:Sch) (c:Cnd) (v:Int):Int:=
 if c.op = 2 then tf (underB (cdlAt s c.col.toNat) v c.code)
 else if c.op = 3 then (if v = missI then 0 else tf (decide (c.lo≤v) && decide (v≤c.hi)))
 else if c.op = 4 then tf (v == missI) else -1
def joinI (op:Int) (ks:List Int):Int:=if op = 7 then - ks.getD 0 0 else if op = 5 then min (ks.getD 0 0) (ks.getD 1 0) else if op = 6 then max (ks.getD 0 0) (ks.getD 1 0) else 1
mutual
def evC (s:Sch) (row:List Int):Cnd→Int
 | .mk op col code lo hi ks=>if isAt (.mk op col code lo hi ks) = true then atomI s (.mk op col code lo hi ks) (row.getD col.toNat 0) else joinI op (evCs s row ks)
def evCs (s:Sch) (row:List Int):List Cnd→List Int
 | []=>[]
 | k :: r=>evC s row k :: evCs s row r
end
def evalI (s:Sch) (c:Cnd) (row:List Int):Int:=if chkC s c≠0∨rowE s row≠0 then 0 else evC s row c
mutual
def atsC:Cnd→List Cnd
 | .mk op col code lo hi ks=>if isAt (.mk op col code lo hi ks) = true then [.mk op col code lo hi ks] else atsCs ks
def atsCs:List Cnd→List Cnd
 | []=>[]
 | k :: r=>atsC k ++ atsCs r
end
def pairA (n:Nat) (p:Nat→Nat→Bool):Bool:=(List.range n).all fun i=>(List.range i).all fun k=>p i k
theorem all_succ {p:Nat→Bool} {n:Nat}:(List.range (n + 1)).all p = ((List.range n).all p && p n):=by rw [List.range_succ,List.all_append];simp
theorem all_no {p:Nat→Bool} {n i:Nat} (h:i < n) (hp:p i = false):(List.range n).all p = false:=List.all_eq_false.2 ⟨i,List.mem_range.2 h,by rw [hp];simp⟩
def decP (s:Sch) (c:Cnd) (lev:Nat) (i k:Nat):Bool:=
 !((coarseI s c.col lev ((leavesL s c.col.toNat).getD i 0) == coarseI s c.col lev ((leavesL s c.col.toNat).getD k 0)) && !(atomI s c ((leavesL s c.col.toNat).getD i 0) == atomI s c ((leavesL s c.col.toNat).getD k 0)))
def decB (s:Sch) (c:Cnd) (lev:Nat):Bool:=
 if c.op = 2 then pairA (leavesL s c.col.toNat).length (decP s c lev)
 else if c.op = 4 then decide (0 < lev)
 else
  let x:=colAt s c.col.toNat
  let first:=decide (x.low < c.lo) && decide (c.lo≤x.high)
  let behind:=decide (x.low≤c.hi) && decide (c.hi < x.high)
  if lev = 0 then !x.opt && !first && !behind
  else (!first || (c.lo.tmod (widthI x lev) == 0)) && (!behind || ((c.hi + 1).tmod (widthI x lev) == 0))
def firstN (p:Nat→Bool):Nat→Nat→Nat
 | 0,n=>n
 | f + 1,n=>if p n = true then n else firstN p f (n + 1)
def decN (s:Sch) (c:Cnd):Nat:=firstN (decB s c) 64 0
def raisF (col lev:Int):List Pk×Bool→Pk→List Pk×Bool:=fun x p=>
 let y:=if p.col > col∧x.2 = false then (x.1 ++ [⟨col,lev⟩],true) else x
 if p.col = col then (y.1 ++ [⟨p.col,max p.lev lev⟩],true) else (y.1 ++ [p],y.2)
def raisP (l:List Pk) (col lev:Int):List Pk:=
 let x:=l.foldl (raisF col lev) ([],decide (lev≤0))
 if x.2 then x.1 else x.1 ++ [⟨col,lev⟩]
def needC (s:Sch) (c:Cnd):List Pk:=if chkC s c≠0 then [] else (atsC c).foldl (fun l a=>raisP l a.col (decN s a)) []
def covB (a b:List Pk):Bool:=a.all fun x=>b.any fun y=>(y.col == x.col) && decide (y.lev≥x.lev)
mutual
def sameC:Cnd→Cnd→Bool
 | .mk a1 a2 a3 a4 a5 ks,.mk b1 b2 b3 b4 b5 ls=>(a1 == b1) && (a2 == b2) && (a3 == b3) && (a4 == b4) && (a5 == b5) && sameCs ks ls
def sameCs:List Cnd→List Cnd→Bool
 | [],[]=>true
 | k :: r,l :: t=>sameC k l && sameCs r t
 | [],_ :: _=>false
 | _ :: _,[]=>false
end
end Go.Proofs
set_option linter.unusedSimpArgs false
set_option linter.unusedVariables false
namespace Go.Proofs
open Go Go.TL
def firstE (f:Nat→Int):Nat→Int
 | 0=>0
 | n + 1=>if firstE f n≠0 then firstE f n else f n
def pickE (s:Sch) (p:Pk):Int:=if schE s≠0 then schE s else if p.col < 1∨p.col≥s.cols.length then 7 else if inB p.lev 0 (finI s p.col) = false then 8 else 0
abbrev pkAt (l:List Pk) (i:Nat):Pk:=l.getD i default
def pickAE (s:Sch) (l:List Pk) (i:Nat):Int:=if pickE s (pkAt l i)≠0 then pickE s (pkAt l i) else if 0 < i∧(pkAt l i).col≤(pkAt l (i - 1)).col then 10 else 0
def picksE (s:Sch) (l:List Pk):Int:=if schE s≠0 then schE s else firstE (pickAE s l) l.length
def dimE (s:Sch) (l:List Pk) (i:Nat):Int:=if pickE s (pkAt l i)≠0 then pickE s (pkAt l i) else if isB s (pkAt l i).col 2 = false then 7 else if ((l.take i).any fun x=>x.col == (pkAt l i).col) = true then 10 else 0
def dimsE (s:Sch) (l:List Pk):Int:=if l.length < 1∨l.length > 3 then 1 else firstE (dimE s l) l.length
def termE (s:Sch) (m:Int) (l:List Int) (i:Nat):Int:=if isB s (l.getD i 0) 3 = false then 7 else if l.getD i 0 = m∨(l.take i).contains (l.getD i 0) = true then 10 else 0
def termsE (s:Sch) (m:Int) (l:List Int):Int:=if l.length < 1∨l.length > 3 then 1 else firstE (termE s m l) l.length
def partsE (s:Sch) (q:Qst):Int:=
 if q.kind = 1 then (if dimsE s q.dims≠0 then dimsE s q.dims else if q.meas≠-1∧isB s q.meas 3 = false then 7 else 0)
 else if q.kind = 2 then (if isB s q.meas 3 = false then 7 else termsE s q.meas q.terms)
 else if isB s q.meas 3 = false then 7 else if (colAt s q.meas.toNat).low < 0 then 2 else chkC s q.event
def qstE (s:Sch) (q:Qst):Int:=
 if schE s≠0 then schE s else if nameB q.name = false then 3 else if q.kind < 1∨3 < q.kind then 4
 else if chkC s q.filt≠0 then chkC s q.filt else if partsE s q≠0 then partsE s q
 else if (q.kind≠1∧0 < q.dims.length)∨(q.kind≠2∧0 < q.terms.length)∨(q.kind≠3∧sameC q.event cnd0 = false) then 11 else 0
abbrev qAt (l:List Qst) (i:Nat):Qst:=l.getD i default
def qsE (s:Sch) (l:List Qst) (i:Nat):Int:=if qstE s (qAt l i)≠0 then qstE s (qAt l i) else if ((l.take i).any fun x=>eqB x.name (qAt l i).name) = true then 10 else 0
def smpE (x:Smp):Int:=if x.of < 1∨x.of > 1000∨x.part < 1∨x.part > x.of∨x.seed < 0∨x.seed > 1099511627776 then 2 else 0
def dclE (s:Sch) (d:Dcl):Int:=
 if schE s≠0 then schE s else if nameB d.proj = false∨nameB d.src = false then 3 else if chkC s d.coh≠0 then chkC s d.coh
 else if smpE d.smp≠0 then 2 else if d.qs.length < 1∨d.qs.length > 8 then 1 else firstE (qsE s d.qs) d.qs.length
end Go.Proofs
set_option linter.unusedSimpArgs false
set_option linter.unusedVariables false
namespace Go.Proofs
open Go Go.TL
def divM (high w wo:Int):Nat→Int→Bool
 | 0,_=>true
 | k + 1,f=>if f > high then true else if f.tmod wo≠0 then false else divM high w wo k (f + w)
def divP (s:Sch) (col:Nat) (L:List Int) (other lev:Nat) (i k:Nat):Bool:=
 !(!(coarseI s col lev (L.getD i 0) == coarseI s col lev (L.getD k 0)) && (coarseI s col other (L.getD i 0) == coarseI s col other (L.getD k 0)))
def divB (s:Sch) (col other lev:Nat):Bool:=
 if lev = 0∨lev≤other then true
 else if (colAt s col).kind = 2 then pairA (leavesL s col).length (divP s col (leavesL s col) other lev)
 else
  let x:=colAt s col
  let w:=widthI x lev
  let first:=(floorI x.low w + 1) * w
  if other = 0 then !x.opt && decide (first > x.high)
  else divM x.high w (widthI x other) 2 first
def leastI (s:Sch) (col lev:Int):Int:=if inB lev 0 (finI s col) = false then -1 else firstN (fun n=>divB s col.toNat n lev.toNat) 64 0
def usesB (q:Qst) (k:Int):Bool:=(q.meas == k) || q.terms.contains k
def raisL (l m:List Pk):List Pk:=m.foldl (fun l p=>raisP l p.col p.lev) l
def needUF (s:Sch) (q:Qst):List Pk→Nat→List Pk:=fun l k=>if usesB q (k + 1) = true then raisP l (k + 1) (leastI s (k + 1) (finI s (k + 1))) else l
def needU (s:Sch) (q:Qst) (l:List Pk):List Pk:=(List.range (s.cols.length - 1)).foldl (needUF s q) l
def needQ (s:Sch) (q:Qst):List Pk:=if qstE s q≠0 then [] else
 needU s q (q.dims.foldl (fun l p=>raisP l p.col (leastI s p.col p.lev)) (if q.kind = 3 then raisL (needC s q.filt) (needC s q.event) else needC s q.filt))
def sufB (s:Sch) (q:Qst) (l:List Pk):Bool:=(qstE s q == 0) && (picksE s l == 0) && covB (needQ s q) l
def chk10 (s:Sch) (d:Dcl) (l:List Pk):Int:=if dclE s d≠0 then dclE s d else if picksE s l≠0 then picksE s l else firstE (fun i=>if sufB s (qAt d.qs i) l = true then 0 else 23) d.qs.length
end Go.Proofs
set_option linter.unusedSimpArgs false
set_option linter.unusedVariables false
namespace Go.Proofs
open Go Go.TL
theorem inB_ok {n lo hi:Int}:inB n lo hi = true↔lo≤n∧n≤hi:=by simp [inB]
theorem SchOk.wid {s:Sch} (h:SchOk s) {i:Nat} (hi:i < s.cols.length) (h0:0 < i) (hk:(colAt s i).kind≠2) {lev:Int} (hl:1≤lev∧lev≤(colAt s i).widths.length) :
 1≤widthI (colAt s i) lev∧widthI (colAt s i) lev≤1000000∧(colAt s i).kind = 3∧(colAt s i).widths.length≤4∧-1000000≤(colAt s i).low∧(colAt s i).high≤1000000∧(colAt s i).low≤(colAt s i).high∧widthI (colAt s i) (colAt s i).widths.length = 1:=by
 have hk2:=colE_kind (h.cs i hi)
 have hk3:(colAt s i).kind = 3:=by have:=hk2.2.2.1 h0;omega
 have hm:=hk2.2.2.2.2 hk3
 generalize colAt s i = c at hl hm hk3 ⊢
 unfold measE at hm
 split at hm
 ·cases hm
 rename_i h1
 split at hm
 ·cases hm
 rename_i h2
 split at hm
 ·cases hm
 rename_i h3
 rw [Bool.not_eq_false] at h3
 have hw:∀ j,j < c.widths.length→wdOk c.widths j = true:=fun j hj=>List.all_eq_true.1 h3 j (List.mem_range.2 hj)
 have e1:inB c.low (-1000000) 1000000 = true:=by grind
 have e2:inB c.high (-1000000) 1000000 = true:=by grind
 rw [inB_ok] at e1 e2
 have hn:((c.widths.length:Int) - lev).toNat < c.widths.length:=by omega
 have hp:=wd_pos (ws:=c.widths) hw _ hn
 have h0:=hw 0 (by omega)
 rw [wdOk,if_pos rfl,beq_iff_eq] at h0
 have hmax:c.widths.getD ((c.widths.length:Int) - lev).toNat 0≤1000000:=by
  have:=hw _ hn
  unfold wdOk at this
  split at this
  ·rename_i e;rw [e,h0];omega
  ·simp only [Bool.and_eq_true,decide_eq_true_eq] at this;omega
 refine ⟨hp,hmax,hk3,by omega,by omega,by omega,by omega,?_⟩
 rw [widthI,show ((c.widths.length:Int) - c.widths.length).toNat = 0 by omega,h0]
theorem c_ref02_Leaves (s:Sch) (hok:SchOk s) (i:Nat) (hi:i < s.cols.length) (h2:(colAt s i).kind = 2):Spc Tryz.prog F_ref02_Leaves [schT s,vI i] [] (vIs (leavesL s i)) []:=by
 have hat:colAt s i = s.cols[i]:=by rw [colAt,getD_get hi]
 obtain ⟨d1,d2⟩:=hok.cdl hi h2
 obtain ⟨d3,d4⟩:=(colE_kind (hok.cs i hi)).2.2.2.1 h2
 have hcl:cdlAt s i = s.lists.getD s.cols[i].list.toNat default:=by rw [cdlAt,hat]
 rw [hcl] at d2
 rw [hat] at d1 d3 d4
 have hgl:s.lists.getD s.cols[i].list.toNat default = s.lists[s.cols[i].list.toNat]:=getD_get d1
 rw [hgl] at d2
 obtain ⟨_,d5,d6⟩:=lstE_par d2
 rw [leavesL,hcl,hgl]
 have hlv:=lvls_le (l:=s.lists[s.cols[i].list.toNat])
 have hw2:IntKind.i64.wrap (lvlsL s.lists[s.cols[i].list.toNat] - 1) = lvlsL s.lists[s.cols[i].list.toNat] - 1:=IntWalk.i64_in _ (by omega)
 refine spec_of_ir fn_ref02_Leaves mixm (by simp) fun e _ hst=>W_start ?_
 unfold ir_ref02_Leaves
 simp only [tZ,↓un_u,simprocAttr,Int.toNat_natCast,getD_mapT hi,getD_mapT d1]
 refine ⟨by omega,by omega,by kernel_rfl,?_⟩
 refine C1.im (c_ref01_Levels _ (by omega)) (by rfl) (by rfl) ?_
 simp only [tZ,↓un_u,simprocAttr,hw2]
 refine C1.im (c_ref01_At _ _ (by omega)) (by rfl) (by rfl) ?_
 refine sW ?_
 refine ⟨by kernel_rfl,?_⟩
 exact .oA [] []
end Go.Proofs
set_option linter.unusedSimpArgs false
set_option linter.unusedVariables false
namespace Go.Proofs
open Go Go.TL
theorem leaves_len {s:Sch} (h:SchOk s) {i:Nat} (hi:i < s.cols.length) (h2:(colAt s i).kind = 2):(leavesL s i).length≤60:=by
 obtain ⟨d1,d2⟩:=h.cdl hi h2
 obtain ⟨_,d5,d6⟩:=lstE_par d2
 unfold leavesL atL
 rw [if_neg (by rw [d2];simp),List.length_map]
 have:=List.length_filter_le (fun i=>(dep (cdlAt s i).codes i:Int) == lvlsL (cdlAt s i) - 1) (List.range (cdlAt s i).codes.length)
 refine Nat.le_trans (List.length_filter_le _ _) ?_
 rw [List.length_range];exact d6
end Go.Proofs
set_option linter.unusedSimpArgs false
set_option linter.unusedVariables false
namespace Go.Proofs
open Go Go.TL
theorem getD_out {α:Type} {f:α→T} {l:List α} {i:Nat} (h:l.length≤i):(l.map f).getD i .junk = .junk:=by simp [List.getD,h]
end Go.Proofs
set_option linter.unusedSimpArgs false
set_option linter.unusedVariables false
namespace Go.Proofs
open Go Go.TL
set_option maxRecDepth 4000
set_option maxHeartbeats 8000000
end Go.Proofs
set_option linter.unusedSimpArgs false
set_option linter.unusedVariables false
namespace Go.Proofs
open Go Go.TL
set_option maxHeartbeats 4000000
end Go.Proofs
set_option linter.unusedSimpArgs false
set_option linter.unusedVariables false
namespace Go.Proofs
open Go Go.TL
set_option maxHeartbeats 4000000
inductive SmC:Cnd→Prop
 | mk (c:Cnd) (h1:c.kids.length < 4611686018427387904) (h2:∀ k∈c.kids,SmC k):SmC c
end Go.Proofs
set_option linter.unusedSimpArgs false
set_option linter.unusedVariables false
namespace Go.Proofs
open Go Go.TL
set_option maxHeartbeats 4000000
end Go.Proofs
set_option linter.unusedSimpArgs false
set_option linter.unusedVariables false
namespace Go.Proofs
open Go Go.TL
set_option maxHeartbeats 4000000
end Go.Proofs
set_option linter.unusedSimpArgs false
set_option linter.unusedVariables false
namespace Go.Proofs
open Go Go.TL
set_option maxHeartbeats 4000000
structure QstOk (s:Sch) (q:Qst):Prop where
 sch:schE s = 0
 kind:1≤q.kind∧q.kind≤3
 filt:chkC s q.filt = 0
 dims:q.kind = 1→dimsE s q.dims = 0∧(q.meas = -1∨isB s q.meas 3 = true)
 nd:q.dims.length≤3
 terms:q.kind = 2→isB s q.meas 3 = true∧termsE s q.meas q.terms = 0
 nt:q.terms.length≤3
 event:q.kind = 3→isB s q.meas 3 = true∧0≤(colAt s q.meas.toNat).low∧chkC s q.event = 0
 d0:q.kind≠1→q.dims = []
 t0:q.kind≠2→q.terms = []
 e0:q.kind≠3→sameC q.event cnd0 = true
end Go.Proofs
set_option linter.unusedSimpArgs false
set_option linter.unusedVariables false
namespace Go.Proofs
open Go Go.TL
def hd (r:List Int):Int:=r.getD 0 0
def putS (row:List Int):List (List Int)×Bool→List Int→List (List Int)×Bool:=fun x r=>
 if hd r = hd row then x
 else if hd r > hd row∧x.2 = false then (x.1 ++ [row] ++ [r],true)
 else (x.1 ++ [r],x.2)
def putR (l:List (List Int)) (row:List Int):List (List Int):=
 let x:=l.foldl (putS row) ([],false)
 if x.2 then x.1 else x.1 ++ [row]
def dropR (l:List (List Int)) (id:Int):List (List Int):=l.filter fun r=>hd r != id
def atR (id:Int) (r:List Int):Bool:=decide (0 < r.length) && (hd r == id)
def findR (s:Src) (id:Int):Int:=if s.rows.any (atR id) = true then (s.rows.findIdx (atR id):Int) else -1
def asc2 (l:List Int) (i:Nat):Bool:=decide (i = 0) || decide (l.getD (i - 1) 0 < l.getD i 0)
def rowsOk2 (s:Src):Bool:=(List.range s.rows.length).all fun i=>(rowE s.sch (s.rows.getD i []) == 0) && (decide (i = 0) || decide (hd (s.rows.getD (i - 1) []) < hd (s.rows.getD i [])))
def goneOk (s:Src):Bool:=(List.range s.gone.length).all fun i=>decide (1≤s.gone.getD i 0) && decide (s.gone.getD i 0≤1048575) && asc2 s.gone i && decide (findR s (s.gone.getD i 0) < 0)
def srcB (s:Src):Bool:=(schE s.sch == 0) && decide (s.rows.length≤200) && decide (s.gone.length≤300) && decide (0≤s.ver) && decide (s.ver≤300) && rowsOk2 s && goneOk s
def putI (l:List Int) (n:Int):List Int:=So.insU So.ltI So.eqI2 l n
abbrev src0:Src:=⟨⟨[],[]⟩,[],[],0⟩
def applyE (s:Src) (e:Edt):Int:=
 if srcB s = false∨s.ver = 300 then 13
 else if e.kind = 1∨e.kind = 2 then
  (if rowE s.sch e.row≠0 then rowE s.sch e.row else if s.gone.contains (hd e.row) = true then 20
   else if e.kind = 1∧0≤findR s (hd e.row) then 10 else if e.kind = 1∧s.rows.length = 200 then 1
   else if e.kind = 2∧findR s (hd e.row) < 0 then 19 else 0)
 else if e.kind = 3 then (if findR s e.id < 0 then 19 else 0)
 else if e.kind = 4 then (if e.id < 1∨e.id > 1048575 then 2 else if s.gone.contains e.id = true then 20 else 0)
 else 4
def applyR (s:Src) (e:Edt):List (List Int):=if e.kind = 1∨e.kind = 2 then putR s.rows e.row else dropR s.rows e.id
def applyS (s:Src) (e:Edt):Src:=if applyE s e≠0 then src0 else ⟨s.sch,applyR s e,if e.kind = 4 then putI s.gone e.id else s.gone,s.ver + 1⟩
def atS:Src→List Edt→Src×Int
 | s,[]=>(s,0)
 | s,e :: l=>if applyE s e≠0 then (src0,applyE s e) else atS (applyS s e) l
end Go.Proofs
set_option linter.unusedSimpArgs false
set_option linter.unusedVariables false
namespace Go.Proofs
open Go Go.TL
def AscR (l:List (List Int)):Prop:=l.Pairwise fun a b=>hd a < hd b
theorem putS_true {row:List Int}:∀ (l acc:List (List Int)),(∀ r∈l,hd row < hd r)→l.foldl (putS row) (acc,true) = (acc ++ l,true)
 | [],acc,_=>by simp
 | r :: l,acc,h=>by
   have h1:=h r (by simp)
   have e:putS row (acc,true) r = (acc ++ [r],true):=by
    unfold putS
    rw [if_neg (by omega),if_neg (by simp)]
   rw [List.foldl_cons,e,putS_true l _ fun x hx=>h x (List.mem_cons_of_mem _ hx)]
   simp
theorem putS_false {row:List Int}:∀ (l acc:List (List Int)),AscR l→l.foldl (putS row) (acc,false) =
 if (l.any fun r=>decide (hd row < hd r)) = true then (acc ++ l.filter (fun r=>decide (hd r < hd row)) ++ row :: l.filter (fun r=>decide (hd row < hd r)),true)
 else (acc ++ l.filter (fun r=>decide (hd r < hd row)),false)
 | [],acc,_=>by simp
 | r :: l,acc,h=>by
   obtain ⟨h1,h2⟩:=List.pairwise_cons.1 h
   rw [List.foldl_cons]
   by_cases e1:hd r = hd row
   ·have e:putS row (acc,false) r = (acc,false):=by unfold putS;rw [if_pos e1]
    have d1:decide (hd row < hd r) = false:=by simp;omega
    have d2:decide (hd r < hd row) = false:=by simp;omega
    rw [e,putS_false l acc h2,List.any_cons,List.filter_cons,List.filter_cons,d1,d2]
    simp
   ·by_cases e2:hd r > hd row
    ·have e:putS row (acc,false) r = (acc ++ [row] ++ [r],true):=by unfold putS;rw [if_neg e1,if_pos ⟨e2,rfl⟩]
     have hall:∀ x∈l,hd row < hd x:=fun x hx=>by have:=h1 x hx;omega
     have d1:decide (hd row < hd r) = true:=by simp;omega
     have d2:decide (hd r < hd row) = false:=by simp;omega
     have f1:l.filter (fun r=>decide (hd row < hd r)) = l:=List.filter_eq_self.2 fun x hx=>by simpa using hall x hx
     have f2:l.filter (fun r=>decide (hd r < hd row)) = []:=List.filter_eq_nil_iff.2 fun x hx=>by have:=hall x hx;simp;omega
     rw [e,putS_true l _ hall,List.any_cons,List.filter_cons,List.filter_cons,d1,d2,f1,f2]
     simp
    ·have e:putS row (acc,false) r = (acc ++ [r],false):=by
      unfold putS
      rw [if_neg e1,if_neg (fun k=>e2 k.1)]
     have d1:decide (hd row < hd r) = false:=by simp;omega
     have d2:decide (hd r < hd row) = true:=by simp;omega
     rw [e,putS_false l _ h2,List.any_cons,List.filter_cons,List.filter_cons,d1,d2]
     simp
theorem putR_eq {l:List (List Int)} {row:List Int} (h:AscR l):putR l row = l.filter (fun r=>decide (hd r < hd row)) ++ row :: l.filter (fun r=>decide (hd row < hd r)):=by
 unfold putR
 rw [putS_false l [] h]
 by_cases e:(l.any fun r=>decide (hd row < hd r)) = true
 ·rw [if_pos e];simp
 ·rw [if_neg e]
  have f1:l.filter (fun r=>decide (hd row < hd r)) = []:=List.filter_eq_nil_iff.2 fun x hx=>by
   intro k
   exact e (List.any_eq_true.2 ⟨x,hx,k⟩)
  rw [f1]
  simp
theorem putR_asc {l:List (List Int)} {row:List Int} (h:AscR l):AscR (putR l row):=by
 rw [putR_eq h]
 unfold AscR
 rw [List.pairwise_append]
 refine ⟨h.filter _,List.pairwise_cons.2 ⟨fun x hx=>?_,h.filter _⟩,fun a ha b hb=>?_⟩
 ·have:=(List.mem_filter.1 hx).2
  simpa using this
 ·have h1:=(List.mem_filter.1 ha).2
  rcases List.mem_cons.1 hb with rfl | hb
  ·simpa using h1
  ·have h2:=(List.mem_filter.1 hb).2
   simp only [decide_eq_true_eq] at h1 h2
   omega
theorem putR_mem {l:List (List Int)} {row r:List Int} (h:AscR l):r∈putR l row↔r = row∨(r∈l∧hd r≠hd row):=by
 rw [putR_eq h,List.mem_append,List.mem_cons,List.mem_filter,List.mem_filter]
 simp only [decide_eq_true_eq]
 constructor
 ·rintro (⟨a,b⟩ | a | ⟨a,b⟩)
  ·exact .inr ⟨a,by omega⟩
  ·exact .inl a
  ·exact .inr ⟨a,by omega⟩
 ·rintro (a | ⟨a,b⟩)
  ·exact .inr (.inl a)
  ·by_cases c:hd r < hd row
   ·exact .inl ⟨a,c⟩
   ·exact .inr (.inr ⟨a,by omega⟩)
theorem putR_len (l:List (List Int)) (row:List Int):(putR l row).length≤l.length + 1:=by
 have key:∀ (l:List (List Int)) (x:List (List Int)×Bool),(l.foldl (putS row) x).1.length + (if (l.foldl (putS row) x).2 then 0 else 1)≤x.1.length + (if x.2 then 0 else 1) + l.length:=by
  intro l
  induction l with
  | nil=>intro x;simp only [List.foldl_nil,List.length_nil,Nat.add_zero];exact Nat.le_refl _
  | cons r l ih=>
    intro x
    have h1:=ih (putS row x r)
    have h2:(putS row x r).1.length + (if (putS row x r).2 then 0 else 1)≤x.1.length + (if x.2 then 0 else 1) + 1:=by
     unfold putS
     split
     ·omega
     ·split
      ·rename_i h;rw [h.2];simp
      ·simp;omega
    rw [List.foldl_cons,List.length_cons]
    omega
 have:=key l ([],false)
 unfold putR
 simp only [List.length_nil,Bool.false_eq_true,if_false] at this
 dsimp only
 split
 ·rename_i h;rw [h] at this;simp at this;omega
 ·rename_i h
  rw [if_neg h] at this
  rw [List.length_append]
  simp
  omega
end Go.Proofs
set_option linter.unusedSimpArgs false
set_option linter.unusedVariables false
namespace Go.Proofs
open Go Go.TL
theorem pw_of {α:Type} [Inhabited α] {f:α→Int} {l:List α} (h:∀ i,0 < i→i < l.length→f (l.getD (i - 1) default) < f (l.getD i default)):l.Pairwise fun a b=>f a < f b:=by
 rw [List.pairwise_iff_getElem]
 have key:∀ (d i:Nat) (hj:i + d + 1 < l.length),f (l[i]'(by omega)) < f l[i + d + 1]:=by
  intro d
  induction d with
  | zero=>
    intro i hj
    have:=h (i + 1) (by omega) (by omega)
    rw [getD_get (by omega),getD_get (by omega)] at this
    simpa using this
  | succ d ih=>
    intro i hj
    have h1:=ih i (by omega)
    have h2:=h (i + d + 1 + 1) (by omega) (by omega)
    rw [getD_get (by omega),getD_get (by omega)] at h2
    simp only [Nat.add_sub_cancel] at h2
    have e:i + (d + 1) + 1 = i + d + 1 + 1:=by omega
    simp only [e]
    omega
 intro i j hi hj hij
 have:=key (j - i - 1) i (by omega)
 have e:i + (j - i - 1) + 1 = j:=by omega
 simp only [e] at this
 exact this
theorem pw_at {α:Type} [Inhabited α] {f:α→Int} {l:List α} (h:l.Pairwise fun a b=>f a < f b) {i:Nat} (h0:0 < i) (hi:i < l.length):f (l.getD (i - 1) default) < f (l.getD i default):=by
 rw [getD_get (by omega),getD_get hi]
 exact List.pairwise_iff_getElem.1 h (i - 1) i (by omega) hi (by omega)
structure SrcOk (s:Src):Prop where
 sch:schE s.sch = 0
 nr:s.rows.length≤200
 ng:s.gone.length≤300
 ver:0≤s.ver∧s.ver≤300
 rows:∀ r∈s.rows,rowE s.sch r = 0
 asc:AscR s.rows
 gone:∀ g∈s.gone,1≤g∧g≤1048575∧findR s g < 0
 gasc:s.gone.Pairwise fun a b=>a < b
theorem row_pos {s:Sch} {r:List Int} (h:rowE s r = 0):0 < r.length:=by
 obtain ⟨h1,h2,_⟩:=rowE_ok h
 have:=(schE_ok h1).nc
 omega
theorem findR_neg {s:Src} {id:Int}:findR s id < 0↔∀ r∈s.rows,atR id r = false:=by
 unfold findR
 split
 ·rename_i h
  obtain ⟨r,h1,h2⟩:=List.any_eq_true.1 h
  constructor
  ·intro h3;omega
  ·intro h3;rw [h3 r h1] at h2;cases h2
 ·rename_i h
  constructor
  ·intro _ r hr
   cases e:atR id r with
   | false=>rfl
   | true=>exact absurd (List.any_eq_true.2 ⟨r,hr,e⟩) h
  ·intro _;omega
theorem srcB_ok {s:Src}:srcB s = true↔SrcOk s:=by
 unfold srcB rowsOk2 goneOk asc2
 simp only [Bool.and_eq_true,beq_iff_eq,decide_eq_true_eq,List.all_eq_true,List.mem_range,Bool.or_eq_true]
 constructor
 ·rintro ⟨⟨⟨⟨⟨⟨h1,h2⟩,h3⟩,h4⟩,h5⟩,h6⟩,h7⟩
  refine ⟨h1,h2,h3,⟨h4,h5⟩,fun r hr=>?_,?_,fun g hg=>?_,?_⟩
  ·obtain ⟨i,hi,rfl⟩:=List.getElem_of_mem hr
   have:=(h6 i hi).1
   rw [getD_get hi] at this
   exact this
  ·exact pw_of (f:=hd) fun i h0 hi=>((h6 i hi).2.resolve_left (by omega))
  ·obtain ⟨i,hi,rfl⟩:=List.getElem_of_mem hg
   obtain ⟨⟨⟨a,b⟩,c⟩,d⟩:=h7 i hi
   rw [getD_get hi] at a b d
   exact ⟨a,b,d⟩
  ·exact pw_of (f:=fun x:Int=>x) fun i h0 hi=>((h7 i hi).1.2.resolve_left (by omega))
 ·intro h
  refine ⟨⟨⟨⟨⟨⟨h.sch,h.nr⟩,h.ng⟩,h.ver.1⟩,h.ver.2⟩,fun i hi=>⟨?_,?_⟩⟩,fun i hi=>⟨⟨⟨?_,?_⟩,?_⟩,?_⟩⟩
  ·rw [getD_get hi];exact h.rows _ (List.getElem_mem hi)
  ·by_cases e:i = 0
   ·exact .inl e
   ·exact .inr (pw_at (f:=hd) h.asc (by omega) hi)
  ·rw [getD_get hi];exact (h.gone _ (List.getElem_mem hi)).1
  ·rw [getD_get hi];exact (h.gone _ (List.getElem_mem hi)).2.1
  ·by_cases e:i = 0
   ·exact .inl e
   ·exact .inr (pw_at (f:=fun x:Int=>x) h.gasc (by omega) hi)
  ·rw [getD_get hi];exact (h.gone _ (List.getElem_mem hi)).2.2
theorem atR_ok {s:Sch} {r:List Int} (h:rowE s r = 0) (id:Int):atR id r = (hd r == id):=by
 unfold atR
 rw [decide_eq_true (row_pos h),Bool.true_and]
theorem putR_len_in {l:List (List Int)} {row:List Int} (h:AscR l) (hk:∃ r∈l,hd r = hd row):(putR l row).length≤l.length:=by
 obtain ⟨r,hr,e⟩:=hk
 rw [putR_eq h,List.length_append,List.length_cons]
 obtain ⟨i,hi,rfl⟩:=List.getElem_of_mem hr
 have h1:l = l.take i ++ l[i] :: l.drop (i + 1):=by rw [← List.drop_eq_getElem_cons hi,List.take_append_drop]
 have f1:(l.filter fun r=>decide (hd r < hd row)).length + (l.filter fun r=>decide (hd row < hd r)).length≤(l.take i).length + (l.drop (i + 1)).length:=by
  rw [h1,List.filter_append,List.filter_append,List.filter_cons,List.filter_cons,decide_eq_false (by omega),decide_eq_false (by omega),← h1]
  have key:∀ m:List (List Int),(m.filter fun r=>decide (hd r < hd row)).length + (m.filter fun r=>decide (hd row < hd r)).length≤m.length:=by
   intro m
   induction m with
   | nil=>simp
   | cons x m ih=>
     rw [List.filter_cons,List.filter_cons,List.length_cons]
     by_cases a:hd x < hd row
     ·rw [decide_eq_true a,decide_eq_false (by omega)]
      simp only [if_true,Bool.false_eq_true,if_false,List.length_cons];omega
     ·rw [decide_eq_false a]
      by_cases b:hd row < hd x
      ·rw [decide_eq_true b];simp only [if_true,Bool.false_eq_true,if_false,List.length_cons];omega
      ·rw [decide_eq_false b];simp only [Bool.false_eq_true,if_false];omega
  have k1:=key (l.take i)
  have k2:=key (l.drop (i + 1))
  simp only [Bool.false_eq_true,if_false,List.length_append]
  omega
 rw [List.length_take,List.length_drop] at f1
 omega
theorem putI_mem {l:List Int} {n x:Int}:x∈putI l n↔x = n∨x∈l:=So.insU_mem So.eqI2_iff
theorem lt_pw {l:List Int}:(l.Pairwise fun a b=>a < b)↔l.Pairwise fun a b=>So.ltI a b = true:=by
 constructor
 ·exact fun h=>h.imp fun k=>decide_eq_true k
 ·exact fun h=>h.imp fun k=>of_decide_eq_true k
theorem putI_asc {l:List Int} {n:Int} (h:l.Pairwise fun a b=>a < b):(putI l n).Pairwise fun a b=>a < b:=lt_pw.2 (So.insU_srt So.ltI_ord So.ltI_tot So.ltI_trans So.eqI2_iff (lt_pw.1 h))
theorem putI_len (l:List Int) (n:Int):(putI l n).length≤l.length + 1:=So.insU_len
theorem apply_ok {s:Src} {e:Edt} (h:SrcOk s) (hg:(s.gone.length:Int)≤s.ver) (he:applyE s e = 0):SrcOk (applyS s e)∧((applyS s e).gone.length:Int)≤(applyS s e).ver:=by
 have hv:=h.ver
 have e0:applyS s e = ⟨s.sch,applyR s e,if e.kind = 4 then putI s.gone e.id else s.gone,s.ver + 1⟩:=by rw [applyS,if_neg (by rw [he];simp)]
 rw [e0]
 unfold applyE at he
 split at he
 ·cases he
 rename_i hv2
 have hv3:s.ver≠300:=fun k=>hv2 (.inr k)
 by_cases k12:e.kind = 1∨e.kind = 2
 ·rw [if_pos k12] at he
  have hk4:¬ e.kind = 4:=by omega
  simp only [applyR,if_pos k12,if_neg hk4]
  split at he
  ·rename_i h1;exact absurd he h1
  rename_i h1
  have hrow:rowE s.sch e.row = 0:=Classical.byContradiction h1
  split at he
  ·cases he
  rename_i h2
  have hng:hd e.row∉s.gone:=by simpa using h2
  split at he
  ·cases he
  rename_i h3
  split at he
  ·cases he
  rename_i h4
  split at he
  ·cases he
  rename_i h5
  refine ⟨⟨h.sch,?_,h.ng,by dsimp only;omega,fun r hr=>?_,putR_asc h.asc,fun g hgm=>?_,h.gasc⟩,by omega⟩
  ·dsimp only
   rcases k12 with k | k
   ·have:=putR_len s.rows e.row
    have hn:=h.nr
    have:s.rows.length≠200:=fun q=>h4 ⟨k,q⟩
    omega
   ·have hf:¬ findR s (hd e.row) < 0:=fun q=>h5 ⟨k,q⟩
    refine Nat.le_trans (putR_len_in h.asc ?_) h.nr
    refine Classical.byContradiction fun hno=>hf (findR_neg.2 fun r hr=>?_)
    rw [atR_ok (h.rows r hr),beq_eq_false_iff_ne]
    exact fun q=>hno ⟨r,hr,q⟩
  ·rcases (putR_mem h.asc).1 hr with hr | hr
   ·rw [hr];exact hrow
   ·exact h.rows r hr.1
  ·obtain ⟨g1,g2,g3⟩:=h.gone g hgm
   refine ⟨g1,g2,findR_neg.2 fun r hr=>?_⟩
   rcases (putR_mem h.asc).1 hr with hr | hr
   ·rw [hr,atR_ok hrow,beq_eq_false_iff_ne]
    exact fun q=>hng (q ▸ hgm)
   ·exact findR_neg.1 g3 r hr.1
 ·simp only [applyR,if_neg k12]
  rw [if_neg k12] at he
  have hsub:∀ r∈dropR s.rows e.id,r∈s.rows:=fun r hr=>(List.mem_filter.1 hr).1
  have hlen:(dropR s.rows e.id).length≤200:=Nat.le_trans (List.length_filter_le _ _) h.nr
  by_cases k4:e.kind = 4
  ·rw [if_neg (by omega),if_pos k4] at he
   simp only [if_pos k4]
   split at he
   ·cases he
   rename_i h1
   have hpl:=putI_len s.gone e.id
   refine ⟨⟨h.sch,hlen,by dsimp only;omega,by dsimp only;omega,fun r hr=>h.rows r (hsub r hr),h.asc.filter _,fun g hgm=>?_,putI_asc h.gasc⟩,by omega⟩
   rcases putI_mem.1 hgm with hgm | hgm
   ·rw [hgm]
    refine ⟨by omega,by omega,findR_neg.2 fun r hr=>?_⟩
    obtain ⟨a,b⟩:=List.mem_filter.1 hr
    rw [atR_ok (h.rows r a)]
    simpa using b
   ·obtain ⟨g1,g2,g3⟩:=h.gone g hgm
    exact ⟨g1,g2,findR_neg.2 fun r hr=>findR_neg.1 g3 r (hsub r hr)⟩
  ·simp only [if_neg k4]
   refine ⟨⟨h.sch,hlen,h.ng,by dsimp only;omega,fun r hr=>h.rows r (hsub r hr),h.asc.filter _,fun g hgm=>?_,h.gasc⟩,by omega⟩
   obtain ⟨g1,g2,g3⟩:=h.gone g hgm
   exact ⟨g1,g2,findR_neg.2 fun r hr=>findR_neg.1 g3 r (hsub r hr)⟩
theorem atS_ok:∀ {l:List Edt} {s:Src},SrcOk s→(s.gone.length:Int)≤s.ver→(atS s l).2 = 0→SrcOk (atS s l).1∧((atS s l).1.gone.length:Int)≤(atS s l).1.ver∧(atS s l).1.sch = s.sch
 | [],s,h,hg,_=>⟨h,hg,rfl⟩
 | e :: l,s,h,hg,he=>by
   unfold atS at he ⊢
   split
   ·rename_i h1;rw [if_pos h1] at he;exact absurd he h1
   ·rename_i h1
    rw [if_neg h1] at he
    have h1:applyE s e = 0:=Classical.byContradiction h1
    obtain ⟨a,b⟩:=apply_ok h hg h1
    obtain ⟨c,d,f⟩:=atS_ok a b he
    refine ⟨c,d,f.trans ?_⟩
    rw [applyS,if_neg (by rw [h1];simp)]
theorem hd_in {s:Sch} {r:List Int} (h:rowE s r = 0):1≤hd r∧hd r≤1048575:=by
 obtain ⟨h1,h2,h3⟩:=rowE_ok h
 have h4:=h3 0 (row_pos h)
 unfold holdsB at h4
 rw [if_pos (schE_ok h1).c0] at h4
 simp only [inB,Bool.and_eq_true,decide_eq_true_eq] at h4
 exact h4
end Go.Proofs
set_option linter.unusedSimpArgs false
set_option linter.unusedVariables false
namespace Go.Proofs
open Go Go.TL
set_option maxHeartbeats 4000000
open So
theorem getD_hd {r:List Int} (h:0 < r.length):(r.map vI).getD 0 .junk = vI (hd r):=by rw [getD_mapT h,hd,getD_get h]
theorem putS_len (row:List Int):∀ (l:List (List Int)) (x:List (List Int)×Bool),(l.foldl (putS row) x).1.length≤x.1.length + l.length + 1
 | l,x=>by
   have key:∀ (l:List (List Int)) (x:List (List Int)×Bool),(l.foldl (putS row) x).1.length + (if (l.foldl (putS row) x).2 then 0 else 1)≤x.1.length + (if x.2 then 0 else 1) + l.length:=by
    intro l
    induction l with
    | nil=>intro x;simp only [List.foldl_nil,List.length_nil,Nat.add_zero];exact Nat.le_refl _
    | cons r l ih=>
      intro x
      have h1:=ih (putS row x r)
      have h2:(putS row x r).1.length + (if (putS row x r).2 then 0 else 1)≤x.1.length + (if x.2 then 0 else 1) + 1:=by
       unfold putS
       split
       ·omega
       ·split
        ·rename_i h;rw [h.2];simp
        ·simp;omega
      rw [List.foldl_cons,List.length_cons]
      omega
   have:=key l x
   split at this <;> split at this <;> omega
theorem c_ref04_Put (l:List (List Int)) (row:List Int) (hl:l.length < 1000000000) (hr:∀ r∈l,0 < r.length) (h0:0 < row.length):Spc Tryz.prog F_ref04_Put [vRw l,vIs row] [] (vRw (putR l row)) []:=by
 have hP:putR l row = if (l.foldl (putS row) ([],false)).2 then (l.foldl (putS row) ([],false)).1 else (l.foldl (putS row) ([],false)).1 ++ [row]:=rfl
 have hS:=fun i=>putS_len row (l.take i) ([],false)
 have hg0:=getD_hd h0
 refine spec_of_ir fn_ref04_Put mixm (by simp) fun e _ hst=>W_start ?_
 unfold ir_ref04_Put
 refine sW ?_
 refine W_loopF mixm (α:=Nat×List (List Int)×Bool) [5,6,7] (fun x=>x.1≤l.length∧x.2 = (l.take x.1).foldl (putS row) ([],false)) (fun x=>[(5,.asl 1 x.2.1.length),(6,vB x.2.2),(7,vI x.1)]) (fun x=>[(1,.arr 1 (x.2.1.map vIs) false)]) (fun x=>l.length - x.1) (0,[],false) ⟨by simp,by simp⟩ ?_ fun x hx=>?_
 ·exact .oA [(1,none)] []
 obtain ⟨i,a,b⟩:=x
 obtain ⟨x1,x2⟩:=hx
 dsimp only at x1 x2
 have hSi:=hS i
 rw [← x2] at hSi
 simp only [List.length_nil,List.length_take] at hSi
 refine sD ?_
 refine ⟨fun h=>?_,fun h=>?_⟩
 ·have hi2:i < l.length:=by omega
  have hwi:=i64_succ (i:=i) (by omega)
  have hs:(l.take (i + 1)).foldl (putS row) ([],false) = putS row (a,b) l[i]:=by rw [take_snoc hi2,List.foldl_append,← x2];rfl
  have hrp:=hr _ (List.getElem_mem hi2)
  have hgi:=getD_hd hrp
  have hr2:putS row (a,b) l[i] = if hd l[i] = hd row then (a,b) else if hd l[i] > hd row∧b = false then (a ++ [row] ++ [l[i]],true) else (a ++ [l[i]],b):=rfl
  rw [hr2] at hs
  simp only [tZ,↓un_u,simprocAttr,Int.toNat_natCast,getD_mapT hi2,hgi,hg0,tD,beq_iff_eq,beq_eq_false_iff_ne,Bool.not_eq_true',Bool.not_eq_false',hwi]
  refine ⟨by omega,by omega,by omega,by kernel_rfl,fun h2=>?_,fun h2=>⟨by omega,by omega,by omega,by kernel_rfl,fun h3=>?_,fun h3=>?_⟩⟩
  ·rw [if_pos h2] at hs
   refine ⟨(i + 1,a,b),⟨by dsimp only;omega,hs.symm⟩,by dsimp only;omega,?_⟩
   exact .oA [(1,some 1)] []
  ·rw [if_neg h2,if_pos h3] at hs
   refine ⟨by omega,by omega,by omega,(i + 1,a ++ [row] ++ [l[i]],true),⟨by dsimp only;omega,hs.symm⟩,by dsimp only;omega,?_⟩
   exact .oA [(1,some 1)] []
  ·rw [if_neg h2,if_neg (by grind)] at hs
   refine ⟨by omega,by omega,(i + 1,a ++ [l[i]],b),⟨by dsimp only;omega,hs.symm⟩,by dsimp only;omega,?_⟩
   exact .oA [(1,some 1)] []
 ·have hil:i = l.length:=by omega
  subst hil
  rw [List.take_length] at x2
  rw [← x2] at hP
  dsimp only at hP
  simp only [tZ,↓un_u,simprocAttr,Bool.not_eq_true',Bool.not_eq_false']
  refine ⟨fun h2=>?_,fun h2=>?_⟩
  ·rw [hP,h2,if_neg (by simp)]
   refine ⟨by omega,?_⟩
   show EndOk [] _ _ (.sl 1 ((a ++ [row]).map vIs)) []
   rw [List.map_append]
   exact .oA [] [1]
  ·rw [hP,if_pos h2]
   exact .oA [] [1]
theorem c_ref04_Drop (l:List (List Int)) (id:Int) (hl:l.length < 1000000000) (hr:∀ r∈l,0 < r.length):Spc Tryz.prog F_ref04_Drop [vRw l,vI id] [] (vRw (dropR l id)) []:=by
 refine spec_of_ir fn_ref04_Drop mixm (by simp) fun e _ hst=>W_start ?_
 unfold ir_ref04_Drop
 refine sW ?_
 refine W_loopF mixm (α:=Nat) [5,6] (fun i=>i≤l.length) (fun i=>[(5,.asl 1 (dropR (l.take i) id).length),(6,vI i)]) (fun i=>[(1,.arr 1 ((dropR (l.take i) id).map vIs) false)]) (fun i=>l.length - i) 0 (by omega) ?_ fun i hi=>?_
 ·exact .oA [(1,none)] []
 have hfl:=List.length_filter_le (fun r=>hd r != id) (l.take i)
 rw [List.length_take] at hfl
 refine sD ?_
 refine ⟨fun h=>?_,fun h=>?_⟩
 ·have hi2:i < l.length:=by omega
  have hwi:=i64_succ (i:=i) (by omega)
  have hgi:=getD_hd (hr _ (List.getElem_mem hi2))
  have hrp:=hr _ (List.getElem_mem hi2)
  have hs:dropR (l.take (i + 1)) id = dropR (l.take i) id ++ if (hd l[i] != id) = true then [l[i]] else []:=by
   unfold dropR
   rw [take_snoc hi2,List.filter_append,List.filter_cons,List.filter_nil]
  simp only [tZ,↓un_u,simprocAttr,Int.toNat_natCast,getD_mapT hi2,hgi,hwi]
  refine ⟨by omega,by omega,fun h2=>?_,fun h2=>?_⟩
  ·rw [if_pos h2] at hs
   refine ⟨by omega,by unfold dropR;omega,i + 1,by omega,by omega,?_⟩
   rw [hs]
   exact .oA [(1,some 1)] []
  ·rw [if_neg (by rw [h2];simp),List.append_nil] at hs
   refine ⟨i + 1,by omega,by omega,?_⟩
   rw [hs]
   exact .oA [(1,some 1)] []
 ·have hil:i = l.length:=by omega
  subst hil
  rw [List.take_length]
  exact .oA [] [1]
theorem c_ref04_Find (s:Src) (id:Int) (hl:s.rows.length < 4611686018427387904):Spc Tryz.prog F_ref04_Find [srcT s,vI id] [] (vI (findR s id)) []:=by
 refine spec_of_ir fn_ref04_Find mixm (by simp) fun e _ hst=>W_start ?_
 unfold ir_ref04_Find
 refine sW ?_
 refine W_loopF mixm (α:=Nat) [5] (fun i=>i≤s.rows.length∧(s.rows.take i).any (atR id) = false) (fun i=>[(5,vI i)]) (fun i=>[(4096,.arr 5 [srcT s] false)]) (fun i=>s.rows.length - i) 0 ⟨by omega,rfl⟩ ?_ fun i hi=>?_
 ·exact .oA [(4096,some 4096)] []
 refine sD ?_
 refine ⟨fun h=>?_,fun h=>?_⟩
 ·have hi2:i < s.rows.length:=by omega
  have hwi:=i64_succ (i:=i) (by omega)
  have hno:atR id s.rows[i] = false→∃ y,(y≤s.rows.length∧(s.rows.take y).any (atR id) = false)∧s.rows.length - y < s.rows.length - i∧Le e ⟨[(1,vI id),(2,.ptr 4096 1 0 0),(5,vI ((i + 1:Nat):Int))],[(4096,.arr 5 [srcT s] false)]⟩ ⟨[(5,vI y),(1,vI id),(2,.ptr 4096 1 0 0)],[(4096,.arr 5 [srcT s] false)]⟩:=fun h3=>by
   refine ⟨i + 1,⟨by omega,any_snoc hi2 hi.2 h3⟩,by omega,?_⟩
   exact .oA [(4096,some 4096)] []
  have hat:atR id s.rows[i] = (decide (0 < s.rows[i].length) && (hd s.rows[i] == id)):=rfl
  rcases Nat.eq_zero_or_pos s.rows[i].length with h0 | h0
  ·have e0:decide ((s.rows[i].length:Int) > 0) = false:=decide_eq_false (by omega)
   have hgj:(s.rows[i].map vI).getD 0 .junk = .junk:=getD_out (by omega)
   simp only [tZ,↓un_u,simprocAttr,Int.toNat_natCast,getD_mapT hi2,e0,hgj,hwi]
   exact ⟨by omega,hno (by rw [hat,decide_eq_false (by omega)];rfl)⟩
  ·have e0:decide ((s.rows[i].length:Int) > 0) = true:=decide_eq_true (by omega)
   rw [decide_eq_true h0,Bool.true_and] at hat
   simp only [tZ,↓un_u,simprocAttr,Int.toNat_natCast,getD_mapT hi2,e0,getD_hd h0,hwi]
   refine ⟨by omega,by omega,by omega,fun h3=>?_,fun h3=>hno (by rw [hat];exact h3)⟩
   rw [findR,if_pos (any_at hi2 (by rw [hat];exact h3)),findIdx_at hi2 hi.2 (by rw [hat];exact h3)]
   exact .oA [] []
 ·have hil:i = s.rows.length:=by omega
  subst hil
  have h2:=hi.2
  rw [List.take_length] at h2
  rw [findR,if_neg (by rw [h2];simp)]
  exact .oA [] []
def SrcSm (s:Src):Prop:=SchSm s.sch∧∀ r∈s.rows,r.length < 4611686018427387904
def rowP (s:Src) (i:Nat):Bool:=(rowE s.sch (s.rows.getD i []) == 0) && (decide (i = 0) || decide (hd (s.rows.getD (i - 1) []) < hd (s.rows.getD i [])))
def goneP (s:Src) (i:Nat):Bool:=decide (1≤s.gone.getD i 0) && decide (s.gone.getD i 0≤1048575) && asc2 s.gone i && decide (findR s (s.gone.getD i 0) < 0)
theorem c_ref04_Valid (s:Src) (hs:SrcSm s):Spc Tryz.prog F_ref04_Valid [srcT s] [] (vB (srcB s)) []:=by
 obtain ⟨hs1,hs2⟩:=hs
 have hB:srcB s = ((schE s.sch == 0) && decide (s.rows.length≤200) && decide (s.gone.length≤300) && decide (0≤s.ver) && decide (s.ver≤300) && (List.range s.rows.length).all (rowP s) && (List.range s.gone.length).all (goneP s)):=rfl
 refine spec_of_ir fn_ref04_Valid mixm (by simp) fun e _ hst=>W_start ?_
 unfold ir_ref04_Valid
 refine sW ?_
 refine C1.im (c_ref02_Check s.sch hs1) (by rfl) (by rfl) ?_
 simp only [tZ,↓un_u,simprocAttr,tD,bne_iff_ne,bne_eq_false_iff_eq]
 refine ⟨fun h=>?_,fun h=>?_⟩
 ·rw [show srcB s = false by rw [hB];grind]
  exact .oA [] []
 have hB2:srcB s = ((List.range s.rows.length).all (rowP s) && (List.range s.gone.length).all (goneP s)):=by rw [hB];grind
 clear hB
 refine W_loopF mixm (α:=Nat) [3,30] (fun i=>i≤s.rows.length∧(List.range i).all (rowP s) = true) (fun i=>[(3,vI i)]) (fun i=>[(4096,.arr 5 [srcT s] false)]) (fun i=>s.rows.length - i) 0 ⟨by omega,rfl⟩ ?_ fun i hi=>?_
 ·exact .oA [(4096,some 4096)] []
 obtain ⟨i1,i2⟩:=hi
 refine sD ?_
 refine ⟨fun h2=>?_,fun h2=>?_⟩
 ·have hi2:i < s.rows.length:=by omega
  have hwi:=i64_succ (i:=i) (by omega)
  have hpi:s.rows.getD i [] = s.rows[i]:=getD_get hi2
  have hbad:rowP s i = false→srcB s = false:=fun k=>by rw [hB2,all_no hi2 k];rfl
  have hgd:rowP s i = true→(List.range (i + 1)).all (rowP s) = true:=fun k=>by rw [all_succ,i2,k];rfl
  have hP:rowP s i = ((rowE s.sch s.rows[i] == 0) && (decide (i = 0) || decide (hd (s.rows.getD (i - 1) []) < hd s.rows[i]))):=by rw [rowP,hpi]
  simp only [tZ,↓un_u,simprocAttr,Int.toNat_natCast,getD_mapT hi2]
  refine ⟨by omega,?_⟩
  refine C1.im (c_ref02_Row s.sch hs1 s.rows[i] (hs2 _ (List.getElem_mem hi2))) (by rfl) (by rfl) ?_
  by_cases hR:rowE s.sch s.rows[i] = 0
  case neg=>
   have e0:(rowE s.sch s.rows[i] != 0) = true:=bne_iff_ne.2 hR
   rw [hbad (by rw [hP,beq_eq_false_iff_ne.2 hR];rfl)]
   rcases Nat.eq_zero_or_pos i with hi0 | hi0
   ·subst hi0
    have hz:((0:Nat):Int) = 0:=rfl
    have hz2:(IntKind.i64.wrap (-1)).toNat = 0:=by decide
    rcases Nat.eq_zero_or_pos s.rows[0].length with h0 | h0
    ·have hgj:(s.rows[0].map vI).getD 0 .junk = .junk:=getD_out (by omega)
     simp only [tZ,↓un_u,simprocAttr,e0,Int.toNat_natCast,hz,beq_self_eq_true,gt_iff_lt,Int.lt_irrefl,Bool.true_and,hz2,getD_mapT hi2,hgj]
     refine ⟨by kernel_rfl,?_⟩
     exact .oA [] []
    ·simp only [tZ,↓un_u,simprocAttr,e0,Int.toNat_natCast,hz,beq_self_eq_true,gt_iff_lt,Int.lt_irrefl,Bool.true_and,hz2,getD_mapT hi2,getD_hd h0]
     refine ⟨by kernel_rfl,?_⟩
     exact .oA [] []
   ·obtain ⟨k,rfl⟩:∃ k,i = k + 1:=⟨i - 1,by omega⟩
    have hk3:k < s.rows.length:=by omega
    have e2:decide (((k + 1:Nat):Int) > 0) = true:=decide_eq_true (by omega)
    have e3:=i64_pred (i:=k + 1) (by omega) (by omega)
    rw [Nat.add_sub_cancel] at e3
    have hkp:0 < s.rows[k].length:=by
     have:=List.all_eq_true.1 i2 k (List.mem_range.2 (by omega))
     rw [rowP,getD_get hk3,Bool.and_eq_true,beq_iff_eq] at this
     exact row_pos this.1
    rcases Nat.eq_zero_or_pos s.rows[k + 1].length with h0 | h0
    ·have hgj:(s.rows[k + 1].map vI).getD 0 .junk = .junk:=getD_out (by omega)
     simp only [tZ,↓un_u,simprocAttr,e0,Int.toNat_natCast,getD_mapT hi2,getD_mapT hk3,e2,e3,hgj,getD_hd hkp]
     refine ⟨by kernel_rfl,?_⟩
     exact .oA [] []
    ·simp only [tZ,↓un_u,simprocAttr,e0,Int.toNat_natCast,getD_mapT hi2,getD_mapT hk3,e2,e3,getD_hd h0,getD_hd hkp]
     refine ⟨by kernel_rfl,?_⟩
     exact .oA [] []
  have e0:(rowE s.sch s.rows[i] != 0) = false:=bne_eq_false_iff_eq.2 hR
  rw [beq_iff_eq.2 hR,Bool.true_and] at hP
  have hrp:=row_pos hR
  rcases Nat.eq_zero_or_pos i with hi0 | hi0
  ·subst hi0
   have hz:((0:Nat):Int) = 0:=rfl
   have hz2:(IntKind.i64.wrap (-1)).toNat = 0:=by decide
   have hz3:=i64_succ (i:=0) (by omega)
   rw [hz] at hz3
   simp only [tZ,↓un_u,simprocAttr,e0,Int.toNat_natCast,hz,beq_self_eq_true,gt_iff_lt,Int.lt_irrefl,Bool.true_and,hz2,getD_mapT hi2,hz3,getD_hd hrp]
   refine ⟨by kernel_rfl,1,⟨by omega,hgd (by rw [hP];rfl)⟩,by omega,?_⟩
   exact .oA [(4096,some 4096)] []
  ·obtain ⟨k,rfl⟩:∃ k,i = k + 1:=⟨i - 1,by omega⟩
   have hk3:k < s.rows.length:=by omega
   have e2:decide (((k + 1:Nat):Int) > 0) = true:=decide_eq_true (by omega)
   have e3:=i64_pred (i:=k + 1) (by omega) (by omega)
   rw [Nat.add_sub_cancel] at e3 hP
   rw [getD_get hk3,decide_eq_false (by omega),Bool.false_or] at hP
   have hkp:0 < s.rows[k].length:=by
    have:=List.all_eq_true.1 i2 k (List.mem_range.2 (by omega))
    rw [rowP,getD_get hk3,Bool.and_eq_true,beq_iff_eq] at this
    exact row_pos this.1
   simp only [tZ,↓un_u,simprocAttr,e0,Int.toNat_natCast,getD_mapT hi2,getD_mapT hk3,e2,e3,hwi,getD_hd hrp,getD_hd hkp,tD]
   refine ⟨by omega,by omega,by omega,by omega,by kernel_rfl,fun h4=>?_,fun h4=>?_⟩
   ·rw [hbad (by rw [hP];exact decide_eq_false (by omega))]
    exact .oA [] []
   ·refine ⟨k + 2,⟨by omega,hgd (by rw [hP];exact decide_eq_true (by omega))⟩,by omega,?_⟩
    exact .oA [(4096,some 4096)] []
 ·have hil:i = s.rows.length:=by omega
  subst hil
  rw [i2,Bool.true_and] at hB2
  have hrl:s.rows.length < 4611686018427387904:=by omega
  refine W_loopF mixm (α:=Nat) [4] (fun i=>i≤s.gone.length∧(List.range i).all (goneP s) = true) (fun i=>[(4,vI i)]) (fun i=>[(4096,.arr 5 [srcT s] false)]) (fun i=>s.gone.length - i) 0 ⟨by omega,rfl⟩ ?_ fun i hi=>?_
  ·exact .oA [(4096,some 4096)] []
  obtain ⟨j1,j2⟩:=hi
  refine sD ?_
  refine ⟨fun h2=>?_,fun h2=>?_⟩
  ·have hi2:i < s.gone.length:=by omega
   have hwi:=i64_succ (i:=i) (by omega)
   have hpi:s.gone.getD i 0 = s.gone[i]:=getD_get hi2
   have hbad:goneP s i = false→srcB s = false:=fun k=>by rw [hB2,all_no hi2 k]
   have hgd:goneP s i = true→(List.range (i + 1)).all (goneP s) = true:=fun k=>by rw [all_succ,j2,k];rfl
   have hP:goneP s i = (decide (1≤s.gone[i]) && decide (s.gone[i]≤1048575) && asc2 s.gone i && decide (findR s s.gone[i] < 0)):=by rw [goneP,hpi]
   have hF:=c_ref04_Find s s.gone[i] hrl
   rcases Nat.eq_zero_or_pos i with hi0 | hi0
   ·subst hi0
    have hz:((0:Nat):Int) = 0:=rfl
    have hz2:(IntKind.i64.wrap (-1)).toNat = 0:=by decide
    have hz3:=i64_succ (i:=0) (by omega)
    rw [hz] at hz3
    have hA:asc2 s.gone 0 = true:=rfl
    rw [hA,Bool.and_true] at hP
    simp only [tZ,↓un_u,simprocAttr,Int.toNat_natCast,hz,beq_self_eq_true,gt_iff_lt,Int.lt_irrefl,Bool.true_and,hz2,getD_mapT hi2,hz3,Bool.or_false]
    refine ⟨by omega,fun _=>by omega,fun _=>by omega,?_⟩
    refine C2.im (fun _=>hF) (fun _=>rfl) (by rfl) ?_
    simp only [tZ,↓un_u,simprocAttr,tD,hz3]
    refine ⟨by kernel_rfl,fun h4=>?_,fun h4=>?_⟩
    ·rw [hbad (by rw [hP];grind)]
     exact .oA [] []
    ·refine ⟨1,⟨by omega,hgd (by rw [hP];grind)⟩,by omega,?_⟩
     exact .oA [(4096,some 4096)] []
   ·obtain ⟨k,rfl⟩:∃ k,i = k + 1:=⟨i - 1,by omega⟩
    have hk3:k < s.gone.length:=by omega
    have e2:decide (((k + 1:Nat):Int) > 0) = true:=decide_eq_true (by omega)
    have e3:=i64_pred (i:=k + 1) (by omega) (by omega)
    rw [Nat.add_sub_cancel] at e3
    have hA:asc2 s.gone (k + 1) = decide (s.gone[k] < s.gone[k + 1]):=by
     rw [asc2,Nat.add_sub_cancel,getD_get hk3,hpi,decide_eq_false (by omega)];rfl
    rw [hA] at hP
    simp only [tZ,↓un_u,simprocAttr,Int.toNat_natCast,getD_mapT hi2,getD_mapT hk3,e2,e3]
    refine ⟨by omega,fun _=>by omega,fun _=>by omega,fun _=>by omega,fun _=>by omega,?_⟩
    refine C2.im (fun _=>hF) (fun _=>rfl) (by rfl) ?_
    simp only [tZ,↓un_u,simprocAttr,tD,hwi]
    refine ⟨by kernel_rfl,fun h4=>?_,fun h4=>?_⟩
    ·rw [hbad (by rw [hP];grind)]
     exact .oA [] []
    ·refine ⟨k + 2,⟨by omega,hgd (by rw [hP];grind)⟩,by omega,?_⟩
     exact .oA [(4096,some 4096)] []
  ·have hil:i = s.gone.length:=by omega
   subst hil
   rw [hB2,j2]
   exact .oA [] []
end Go.Proofs
