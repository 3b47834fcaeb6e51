/- A part of the proof: trees of Go values, short forms, contracts. -/
import Derived.WalkKit
import Derived.Still
import Derived.MapKept
import GoSem.Builtin.Cap
import Derived.Laws.Externs
import GoSem.Extern.SlicesOverlaps
import Derived.Carry
import Derived.ProofKit
import Derived.OpenShut
import Derived.HandedShaped
import Derived.Lay
import Derived.LaidLaws
import Derived.MakeChecks
import Derived.SevenTiedAt
import Derived.Test.YtjckmmphmhafjaaGreatDoorChecked
import Derived.Test.YtjckmmphmhafjaaGreatDoorK18
set_option linter.unusedSimpArgs false
set_option linter.unusedVariables false
namespace Go.Proofs
open Go Go.TL
set_option maxHeartbeats 4000000
theorem c_ref09_Uses (q:Qst) (k:Int) (ht:q.terms.length < 4611686018427387904):Spc Tryz.prog F_ref09_Uses [qstT q,vI k] [] (vB (usesB q k)) []:=by
 refine spec_of_ir fn_ref09_Uses mixm (by simp) fun e _ hst=>W_start ?_
 unfold ir_ref09_Uses
 refine sW ?_
 refine C2.im (fun _=>c_ref01_Has q.terms k ht) (fun _=>rfl) (by rfl) ?_
 refine sW ?_
 rw [show (q.meas == k || q.terms.contains k) = usesB q k from rfl]
 exact .oA [] []
theorem raisL_len:∀ (m l:List Pk),(raisL l m).length≤l.length + m.length
 | [],l=>Nat.le_refl _
 | p :: m,l=>by
   have h1:=raisL_len m (raisP l p.col p.lev)
   have h2:=raisP_len l p.col p.lev
   unfold raisL at h1 ⊢
   rw [List.foldl_cons,List.length_cons]
   omega
theorem raisL_snoc (l m:List Pk) (p:Pk):raisL l (m ++ [p]) = raisP (raisL l m) p.col p.lev:=by rw [raisL,List.foldl_append];rfl
theorem needC_len (s:Sch) (c:Cnd):(needC s c).length≤40:=by
 unfold needC
 split
 ·simp
 ·rename_i h
  obtain ⟨hE,k2,k3,k4⟩:=chkC_ok (Classical.byContradiction h)
  have h1:=ats_len c 41 (by omega) k2
  have h2:=needF_len s (atsC c) []
  simp only [List.length_nil] at h2
  unfold needF at h2
  omega
structure QstOk (s:Sch) (q:Qst):Prop where
 sch:schE s = 0
 kind:1≤q.kind∧q.kind≤3
 filt:chkC s q.filt = 0
 dims:q.kind = 1→dimsE s q.dims = 0∧(q.meas = -1∨isB s q.meas 3 = true)
 nd:q.dims.length≤3
 terms:q.kind = 2→isB s q.meas 3 = true∧termsE s q.meas q.terms = 0
 nt:q.terms.length≤3
 event:q.kind = 3→isB s q.meas 3 = true∧0≤(colAt s q.meas.toNat).low∧chkC s q.event = 0
 d0:q.kind≠1→q.dims = []
 t0:q.kind≠2→q.terms = []
 e0:q.kind≠3→sameC q.event cnd0 = true
theorem qstE_ok {s:Sch} {q:Qst} (h:qstE s q = 0):QstOk s q:=by
 unfold qstE at h
 split at h
 ·rename_i h1;exact absurd h h1
 rename_i h1
 split at h
 ·cases h
 rename_i h2
 split at h
 ·cases h
 rename_i h3
 split at h
 ·rename_i h4;exact absurd h h4
 rename_i h4
 split at h
 ·rename_i h5;exact absurd h h5
 rename_i h5
 split at h
 ·cases h
 rename_i h6
 have hp:partsE s q = 0:=Classical.byContradiction h5
 unfold partsE at hp
 have hd:q.kind = 1→dimsE s q.dims = 0∧(q.meas = -1∨isB s q.meas 3 = true):=fun k=>by
  rw [if_pos k] at hp
  grind
 have ht:q.kind = 2→isB s q.meas 3 = true∧termsE s q.meas q.terms = 0:=fun k=>by
  rw [if_neg (by omega),if_pos k] at hp
  grind
 have hd0:q.kind≠1→q.dims = []:=fun k=>List.length_eq_zero_iff.1 (by omega)
 have ht0:q.kind≠2→q.terms = []:=fun k=>List.length_eq_zero_iff.1 (by omega)
 refine ⟨Classical.byContradiction h1,by omega,Classical.byContradiction h4,hd,?_,ht,?_,fun k=>?_,hd0,ht0,fun k=>?_⟩
 ·by_cases k:q.kind = 1
  ·have:=(hd k).1
   unfold dimsE at this
   grind
  ·rw [hd0 k];simp
 ·by_cases k:q.kind = 2
  ·have:=(ht k).2
   unfold termsE at this
   grind
  ·rw [ht0 k];simp
 ·rw [if_neg (by omega),if_neg (by omega)] at hp
  grind
 ·grind
theorem needDF_len (s:Sch):∀ (m l:List Pk),(m.foldl (fun l p=>raisP l p.col (leastI s p.col p.lev)) l).length≤l.length + m.length
 | [],l=>Nat.le_refl _
 | p :: m,l=>by
   have h1:=needDF_len s m (raisP l p.col (leastI s p.col p.lev))
   have h2:=raisP_len l p.col (leastI s p.col p.lev)
   rw [List.foldl_cons,List.length_cons]
   omega
theorem needUF_len (s:Sch) (q:Qst):∀ (m:List Nat) (l:List Pk),(m.foldl (needUF s q) l).length≤l.length + m.length
 | [],l=>Nat.le_refl _
 | k :: m,l=>by
   have h1:=needUF_len s q m (needUF s q l k)
   have h2:(needUF s q l k).length≤l.length + 1:=by
    unfold needUF
    split
    ·exact raisP_len _ _ _
    ·omega
   rw [List.foldl_cons,List.length_cons]
   omega
def needQ0 (s:Sch) (q:Qst):List Pk:=if q.kind = 3 then raisL (needC s q.filt) (needC s q.event) else needC s q.filt
theorem needQ0_len (s:Sch) (q:Qst):(needQ0 s q).length≤80:=by
 have h1:=needC_len s q.filt
 have h2:=needC_len s q.event
 have h3:=raisL_len (needC s q.event) (needC s q.filt)
 unfold needQ0
 split <;> omega
theorem needQ_len (s:Sch) (q:Qst):(needQ s q).length≤100:=by
 unfold needQ needU
 split
 ·simp
 ·rename_i h
  have hq:=qstE_ok (Classical.byContradiction h)
  have h1:=needQ0_len s q
  unfold needQ0 at h1
  have h2:=needDF_len s q.dims (if q.kind = 3 then raisL (needC s q.filt) (needC s q.event) else needC s q.filt)
  have h3:=needUF_len s q (List.range (s.cols.length - 1)) (q.dims.foldl (fun l p=>raisP l p.col (leastI s p.col p.lev)) (if q.kind = 3 then raisL (needC s q.filt) (needC s q.event) else needC s q.filt))
  have h4:=(schE_ok hq.sch).nc
  have h5:=hq.nd
  rw [List.length_range] at h3
  omega
theorem c_ref09_Needs (s:Sch) (hs:SchSm s) (hL:0 < s.lists.length) (q:Qst):Spc Tryz.prog F_ref09_Needs [schT s,qstT q] [] (vPs (needQ s q)) []:=by
 refine spec_of_ir fn_ref09_Needs mixm (by simp) fun e _ hst=>W_start ?_
 unfold ir_ref09_Needs
 refine sW ?_
 refine C1.im (c_ref08_Question s hs hL q) (by rfl) (by rfl) ?_
 simp only [tZ,↓un_u,simprocAttr,bne_iff_ne,bne_eq_false_iff_eq]
 refine ⟨fun h=>?_,fun h=>?_⟩
 ·rw [needQ,if_pos h]
  exact .oA [] []
 have hq:=qstE_ok h
 have hnc:=(schE_ok hq.sch).nc
 have hnd:=hq.nd
 have hnt:=hq.nt
 have hN:needQ s q = (List.range (s.cols.length - 1)).foldl (needUF s q) (q.dims.foldl (fun l p=>raisP l p.col (leastI s p.col p.lev)) (needQ0 s q)):=by
  rw [needQ,if_neg (by rw [h];simp)];rfl
 have h0:=needQ0_len s q
 have hQ0:needQ0 s q = if q.kind = 3 then raisL (needC s q.filt) (needC s q.event) else needC s q.filt:=rfl
 rw [hN]
 generalize needQ0 s q = A at h0 hQ0 ⊢
 refine C1.im (c_ref05_Needs s hs hL q.filt) (by rfl) (by rfl) ?_
 have hcl:=needC_len s q.filt
 generalize needC s q.filt = C at hQ0 hcl ⊢
 simp only [tZ,↓un_u,simprocAttr,beq_iff_eq,beq_eq_false_iff_ne]
 apply mid
 ·intro hmain
  refine ⟨fun h1=>?_,fun h1=>?_⟩
  ·rw [if_pos h1] at hQ0
   refine C1.im (c_ref05_Needs s hs hL q.event) (by rfl) (by rfl) ?_
   have hel:=needC_len s q.event
   generalize needC s q.event = V at hQ0 hel ⊢
   refine sW ?_
   refine W_loopF mixm (α:=Nat) [5,7,20] (fun i=>i≤V.length) (fun i=>[(5,vPs (raisL C (V.take i))),(7,vI i)]) (fun i=>[(4096,.arr 2 [schT s] false),(4100,.arr 17 [qstT q] false)]) (fun i=>V.length - i) 0 (by omega) ?_ fun i hi=>?_
   ·exact .oA [(4096,some 4096),(4100,some 4100)] []
   have hrl:=raisL_len (V.take i) C
   rw [List.length_take] at hrl
   refine sD ?_
   refine ⟨fun h3=>?_,fun h3=>?_⟩
   ·have hi2:i < V.length:=by omega
    have hwi:=i64_succ (i:=i) (by omega)
    simp only [tZ,↓un_u,simprocAttr,Int.toNat_natCast,getD_mapT hi2]
    refine ⟨by omega,by omega,?_⟩
    refine C1.im (c_ref05_Raise (raisL C (V.take i)) V[i].col V[i].lev (by omega)) (by rfl) (by rfl) ?_
    simp only [tZ,↓un_u,simprocAttr,hwi]
    refine ⟨by kernel_rfl,i + 1,by omega,by omega,?_⟩
    rw [take_snoc hi2,raisL_snoc]
    exact .oA [(4096,some 4096),(4100,some 4100)] []
   ·have hil:i = V.length:=by omega
    subst hil
    rw [List.take_length,← hQ0]
    exact hmain
  ·rw [if_neg h1] at hQ0
   rw [← hQ0]
   exact hmain
 ·clear hQ0
  refine W_loopF mixm (α:=Nat) [5,8] (fun i=>i≤q.dims.length) (fun i=>[(5,vPs ((q.dims.take i).foldl (fun l p=>raisP l p.col (leastI s p.col p.lev)) A)),(8,vI i)]) (fun i=>[(4096,.arr 2 [schT s] false),(4100,.arr 17 [qstT q] false)]) (fun i=>q.dims.length - i) 0 (by omega) ?_ fun i hi=>?_
  ·exact .oA [(4096,some 4096),(4100,some 4100)] []
  have hrl:=needDF_len s (q.dims.take i) A
  rw [List.length_take] at hrl
  refine sD ?_
  refine ⟨fun h3=>?_,fun h3=>?_⟩
  ·have hi2:i < q.dims.length:=by omega
   have hwi:=i64_succ (i:=i) (by omega)
   simp only [tZ,↓un_u,simprocAttr,Int.toNat_natCast,getD_mapT hi2]
   refine ⟨by omega,by omega,by omega,?_⟩
   refine C1.im (c_ref02_Least s hs q.dims[i].col q.dims[i].lev) (by rfl) (by rfl) ?_
   refine sW ?_
   refine C1.im (c_ref05_Raise _ q.dims[i].col (leastI s q.dims[i].col q.dims[i].lev) (by omega)) (by rfl) (by rfl) ?_
   simp only [tZ,↓un_u,simprocAttr,hwi]
   refine ⟨by kernel_rfl,i + 1,by omega,by omega,?_⟩
   rw [take_snoc hi2,List.foldl_append]
   simp only [List.foldl_cons,List.foldl_nil]
   exact .oA [(4096,some 4096),(4100,some 4100)] []
  ·have hil:i = q.dims.length:=by omega
   subst hil
   rw [List.take_length]
   have hB:=needDF_len s q.dims A
   generalize q.dims.foldl (fun l p=>raisP l p.col (leastI s p.col p.lev)) A = B at hB ⊢
   refine W_loopF mixm (α:=Nat) [5,9] (fun i=>i≤s.cols.length - 1) (fun i=>[(5,vPs ((List.range i).foldl (needUF s q) B)),(9,vI ((i + 1:Nat):Int))]) (fun i=>[(4096,.arr 2 [schT s] false),(4100,.arr 17 [qstT q] false)]) (fun i=>s.cols.length - 1 - i) 0 (by omega) ?_ fun i hi=>?_
   ·exact .oA [(4096,some 4096),(4100,some 4100)] []
   have hrl:=needUF_len s q (List.range i) B
   rw [List.length_range] at hrl
   have hsu:(List.range (i + 1)).foldl (needUF s q) B = needUF s q ((List.range i).foldl (needUF s q) B) i:=by rw [List.range_succ,List.foldl_append];rfl
   have hwi:=i64_succ (i:=i + 1) (by omega)
   have hU:=c_ref09_Uses q ((i + 1:Nat):Int) (by omega)
   refine sD ?_
   refine ⟨fun h3=>?_,fun h3=>?_⟩
   ·refine C1.im hU (by rfl) (by rfl) ?_
    refine sW ?_
    refine ⟨fun h4=>?_,fun h4=>?_⟩
    ·have hsu:(List.range (i + 1)).foldl (needUF s q) B = raisP ((List.range i).foldl (needUF s q) B) ((i + 1:Nat):Int) (leastI s ((i + 1:Nat):Int) (finI s ((i + 1:Nat):Int))):=by
      rw [hsu,needUF]
      exact if_pos h4
     refine C1.im (c_ref02_Finest s hs ((i + 1:Nat):Int)) (by rfl) (by rfl) ?_
     refine sW ?_
     refine C1.im (c_ref02_Least s hs ((i + 1:Nat):Int) (finI s ((i + 1:Nat):Int))) (by rfl) (by rfl) ?_
     refine sW ?_
     refine C1.im (c_ref05_Raise _ ((i + 1:Nat):Int) (leastI s ((i + 1:Nat):Int) (finI s ((i + 1:Nat):Int))) (by omega)) (by rfl) (by rfl) ?_
     simp only [tZ,↓un_u,simprocAttr,hwi]
     refine ⟨by kernel_rfl,i + 1,by omega,by omega,?_⟩
     rw [hsu]
     exact .oA [(4096,some 4096),(4100,some 4100)] []
    ·have hsu:(List.range (i + 1)).foldl (needUF s q) B = (List.range i).foldl (needUF s q) B:=by
      rw [hsu,needUF]
      exact if_neg (by show ¬ usesB q ((i + 1:Nat):Int) = true;rw [h4];simp)
     simp only [tZ,↓un_u,simprocAttr,hwi]
     refine ⟨i + 1,by omega,by omega,?_⟩
     rw [hsu]
     exact .oA [(4096,some 4096),(4100,some 4100)] []
   ·have hil:i = s.cols.length - 1:=by omega
    subst hil
    exact .oA [] []
theorem c_ref09_Suffice (s:Sch) (hs:SchSm s) (hL:0 < s.lists.length) (q:Qst) (l:List Pk) (hl:l.length < 4611686018427387904):Spc Tryz.prog F_ref09_Suffice [schT s,qstT q,vPs l] [] (vB (sufB s q l)) []:=by
 have hnl:=needQ_len s q
 refine spec_of_ir fn_ref09_Suffice mixm (by simp) fun e _ hst=>W_start ?_
 unfold ir_ref09_Suffice
 refine sW ?_
 refine C1.im (c_ref08_Question s hs hL q) (by rfl) (by rfl) ?_
 refine sW ?_
 refine C2.im (fun _=>c_ref02_Picks s hs l hl) (fun _=>rfl) (by rfl) ?_
 refine sW ?_
 refine C2.im (fun _=>c_ref09_Needs s hs hL q) (fun _=>rfl) (by rfl) ?_
 refine sW ?_
 refine C2.im (fun _=>c_ref05_Covers (needQ s q) l (by omega) hl) (fun _=>rfl) (by rfl) ?_
 refine sW ?_
 rw [show (qstE s q == 0 && picksE s l == 0 && covB (needQ s q) l) = sufB s q l from rfl]
 exact .oA [] []
def planF (s:Sch):List Pk→Qst→List Pk:=fun l q=>raisL l (needQ s q)
theorem planF_len (s:Sch):∀ (m:List Qst) (l:List Pk),(m.foldl (planF s) l).length≤l.length + 100 * m.length
 | [],l=>Nat.le_refl _
 | q :: m,l=>by
   have h1:=planF_len s m (planF s l q)
   have h2:=raisL_len (needQ s q) l
   have h3:=needQ_len s q
   rw [List.foldl_cons,List.length_cons]
   unfold planF at h1 ⊢
   omega
theorem planL_len (s:Sch) (d:Dcl):(planL s d).length≤800:=by
 unfold planL
 split
 ·simp
 ·rename_i h
  have hd:=dclE_ok (Classical.byContradiction h)
  have:=planF_len s d.qs []
  simp only [List.length_nil] at this
  unfold planF at this
  omega
theorem c_ref10_Plan (s:Sch) (hs:SchSm s) (hL:0 < s.lists.length) (d:Dcl):Spc Tryz.prog F_ref10_Plan [schT s,dclT d] [] (.tup [vPs (planL s d),vI (dclE s d)]) []:=by
 refine spec_of_ir fn_ref10_Plan mixm (by simp) fun e _ hst=>W_start ?_
 unfold ir_ref10_Plan
 refine sW ?_
 refine C1.im (c_ref08_Check s hs hL d) (by rfl) (by rfl) ?_
 simp only [tZ,↓un_u,simprocAttr,bne_iff_ne,bne_eq_false_iff_eq]
 refine ⟨fun h=>?_,fun h=>?_⟩
 ·rw [planL,if_pos h]
  exact .oA [] []
 obtain ⟨hE,_,_,_,_,hq1,hq2,_⟩:=dclE_ok h
 have hP:planL s d = d.qs.foldl (planF s) []:=by rw [planL,if_neg (by rw [h];simp)];rfl
 rw [hP,h]
 refine W_loopF mixm (α:=Nat) [7,8,6] (fun i=>i≤d.qs.length) (fun i=>[(7,vPs ((d.qs.take i).foldl (planF s) [])),(8,vI i)]) (fun i=>[(4096,.arr 2 [schT s] false),(4100,.arr 12 [dclT d] false)]) (fun i=>d.qs.length - i) 0 (by omega) ?_ fun i hi=>?_
 ·exact .oA [(4096,some 4096),(4100,some 4100)] []
 have hpl:=planF_len s (d.qs.take i) []
 rw [List.length_take,List.length_nil] at hpl
 refine sD ?_
 refine ⟨fun h3=>?_,fun h3=>?_⟩
 ·have hi2:i < d.qs.length:=by omega
  have hwi:=i64_succ (i:=i) (by omega)
  have hsu:(d.qs.take (i + 1)).foldl (planF s) [] = raisL ((d.qs.take i).foldl (planF s) []) (needQ s d.qs[i]):=by rw [take_snoc hi2,List.foldl_append];rfl
  simp only [tZ,↓un_u,simprocAttr,Int.toNat_natCast,getD_mapT hi2]
  refine ⟨by omega,?_⟩
  refine C1.im (c_ref09_Needs s hs hL d.qs[i]) (by rfl) (by rfl) ?_
  have hnl:=needQ_len s d.qs[i]
  generalize needQ s d.qs[i] = V at hsu hnl ⊢
  generalize (d.qs.take i).foldl (planF s) [] = C at hsu hpl ⊢
  refine sW ?_
  refine ⟨by kernel_rfl,?_⟩
  refine W_loopF mixm (α:=Nat) [7,10] (fun k=>k≤V.length) (fun k=>[(7,vPs (raisL C (V.take k))),(10,vI k)]) (fun k=>[(4096,.arr 2 [schT s] false),(4100,.arr 12 [dclT d] false)]) (fun k=>V.length - k) 0 (by omega) ?_ fun k hk=>?_
  ·exact .oA [(4096,some 4096),(4100,some 4100)] []
  have hrl:=raisL_len (V.take k) C
  rw [List.length_take] at hrl
  refine sD ?_
  refine ⟨fun h4=>?_,fun h4=>?_⟩
  ·have hk2:k < V.length:=by omega
   have hwk:=i64_succ (i:=k) (by omega)
   simp only [tZ,↓un_u,simprocAttr,Int.toNat_natCast,getD_mapT hk2]
   refine ⟨by omega,by omega,?_⟩
   refine C1.im (c_ref05_Raise (raisL C (V.take k)) V[k].col V[k].lev (by omega)) (by rfl) (by rfl) ?_
   simp only [tZ,↓un_u,simprocAttr,hwk]
   refine ⟨by kernel_rfl,k + 1,by omega,by omega,?_⟩
   rw [take_snoc hk2,raisL_snoc]
   exact .oA [(4096,some 4096),(4100,some 4100)] []
  ·have hkl:k = V.length:=by omega
   subst hkl
   rw [List.take_length,← hsu]
   simp only [tZ,↓un_u,simprocAttr,hwi]
   refine ⟨i + 1,by omega,by omega,?_⟩
   exact .oA [(4096,some 4096),(4100,some 4100)] []
 ·have hil:i = d.qs.length:=by omega
  subst hil
  rw [List.take_length]
  exact .oA [] []
theorem c_ref10_Check (s:Sch) (hs:SchSm s) (hL:0 < s.lists.length) (d:Dcl) (l:List Pk) (hl:l.length < 4611686018427387904):Spc Tryz.prog F_ref10_Check [schT s,dclT d,vPs l] [] (vI (chk10 s d l)) []:=by
 refine spec_of_ir fn_ref10_Check mixm (by simp) fun e _ hst=>W_start ?_
 unfold ir_ref10_Check
 refine sW ?_
 refine C1.im (c_ref08_Check s hs hL d) (by rfl) (by rfl) ?_
 simp only [tZ,↓un_u,simprocAttr,bne_iff_ne,bne_eq_false_iff_eq]
 refine ⟨fun h=>?_,fun h=>?_⟩
 ·rw [chk10,if_pos h]
  exact .oA [] []
 obtain ⟨hE,_,_,_,_,hq1,hq2,_⟩:=dclE_ok h
 rw [chk10,if_neg (by rw [h];simp)]
 refine C1.im (c_ref02_Picks s hs l hl) (by rfl) (by rfl) ?_
 simp only [tZ,↓un_u,simprocAttr,bne_iff_ne,bne_eq_false_iff_eq]
 refine ⟨fun h2=>?_,fun h2=>?_⟩
 ·rw [if_pos h2]
  exact .oA [] []
 rw [if_neg (by rw [h2];simp)]
 refine W_loopF mixm (α:=Nat) [9,7,8] (fun i=>i≤d.qs.length∧firstE (fun i=>if sufB s (qAt d.qs i) l = true then 0 else 23) i = 0) (fun i=>[(9,vI i)]) (fun i=>[(4096,.arr 2 [schT s] false),(4100,.arr 12 [dclT d] false)]) (fun i=>d.qs.length - i) 0 ⟨by omega,rfl⟩ ?_ fun i hi=>?_
 ·exact .oA [(4096,some 4096),(4100,some 4100)] []
 refine sD ?_
 refine ⟨fun h3=>?_,fun h3=>?_⟩
 ·have hi2:i < d.qs.length:=by omega
  have hwi:=i64_succ (i:=i) (by omega)
  have hpi:qAt d.qs i = d.qs[i]:=by rw [qAt,getD_get hi2]
  have hstep:=firstE_hit hi.2 hi2
  have hnext:=firstE_next hi.2
  rw [hpi] at hstep hnext
  simp only [tZ,↓un_u,simprocAttr,Int.toNat_natCast,getD_mapT hi2]
  refine ⟨by omega,?_⟩
  refine C1.im (c_ref09_Suffice s hs hL d.qs[i] l hl) (by rfl) (by rfl) ?_
  simp only [tZ,↓un_u,simprocAttr,Bool.not_eq_true',Bool.not_eq_false',hwi]
  refine ⟨by kernel_rfl,fun h4=>?_,fun h4=>?_⟩
  ·rw [if_neg (by rw [h4];simp)] at hstep
   rw [hstep (by decide)]
   exact .oA [] []
  ·rw [if_pos h4] at hnext
   refine ⟨i + 1,⟨by omega,hnext⟩,by omega,?_⟩
   exact .oA [(4096,some 4096),(4100,some 4100)] []
 ·have hil:i = d.qs.length:=by omega
  subst hil
  rw [hi.2]
  exact .oA [] []
end Go.Proofs
set_option linter.unusedSimpArgs false
set_option linter.unusedVariables false
namespace Go.Proofs
open Go Go.TL
def hd (r:List Int):Int:=r.getD 0 0
def putS (row:List Int):List (List Int)×Bool→List Int→List (List Int)×Bool:=fun x r=>
 if hd r = hd row then x
 else if hd r > hd row∧x.2 = false then (x.1 ++ [row] ++ [r],true)
 else (x.1 ++ [r],x.2)
def putR (l:List (List Int)) (row:List Int):List (List Int):=
 let x:=l.foldl (putS row) ([],false)
 if x.2 then x.1 else x.1 ++ [row]
def dropR (l:List (List Int)) (id:Int):List (List Int):=l.filter fun r=>hd r != id
def atR (id:Int) (r:List Int):Bool:=decide (0 < r.length) && (hd r == id)
def findR (s:Src) (id:Int):Int:=if s.rows.any (atR id) = true then (s.rows.findIdx (atR id):Int) else -1
def asc2 (l:List Int) (i:Nat):Bool:=decide (i = 0) || decide (l.getD (i - 1) 0 < l.getD i 0)
def rowsOk2 (s:Src):Bool:=(List.range s.rows.length).all fun i=>(rowE s.sch (s.rows.getD i []) == 0) && (decide (i = 0) || decide (hd (s.rows.getD (i - 1) []) < hd (s.rows.getD i [])))
def goneOk (s:Src):Bool:=(List.range s.gone.length).all fun i=>decide (1≤s.gone.getD i 0) && decide (s.gone.getD i 0≤1048575) && asc2 s.gone i && decide (findR s (s.gone.getD i 0) < 0)
def srcB (s:Src):Bool:=(schE s.sch == 0) && decide (s.rows.length≤200) && decide (s.gone.length≤300) && decide (0≤s.ver) && decide (s.ver≤300) && rowsOk2 s && goneOk s
def putI (l:List Int) (n:Int):List Int:=So.insU So.ltI So.eqI2 l n
abbrev src0:Src:=⟨⟨[],[]⟩,[],[],0⟩
def applyE (s:Src) (e:Edt):Int:=
 if srcB s = false∨s.ver = 300 then 13
 else if e.kind = 1∨e.kind = 2 then
  (if rowE s.sch e.row≠0 then rowE s.sch e.row else if s.gone.contains (hd e.row) = true then 20
   else if e.kind = 1∧0≤findR s (hd e.row) then 10 else if e.kind = 1∧s.rows.length = 200 then 1
   else if e.kind = 2∧findR s (hd e.row) < 0 then 19 else 0)
 else if e.kind = 3 then (if findR s e.id < 0 then 19 else 0)
 else if e.kind = 4 then (if e.id < 1∨e.id > 1048575 then 2 else if s.gone.contains e.id = true then 20 else 0)
 else 4
def applyR (s:Src) (e:Edt):List (List Int):=if e.kind = 1∨e.kind = 2 then putR s.rows e.row else dropR s.rows e.id
def applyS (s:Src) (e:Edt):Src:=if applyE s e≠0 then src0 else ⟨s.sch,applyR s e,if e.kind = 4 then putI s.gone e.id else s.gone,s.ver + 1⟩
def atS:Src→List Edt→Src×Int
 | s,[]=>(s,0)
 | s,e :: l=>if applyE s e≠0 then (src0,applyE s e) else atS (applyS s e) l
end Go.Proofs
set_option linter.unusedSimpArgs false
set_option linter.unusedVariables false
namespace Go.Proofs
open Go Go.TL
def AscR (l:List (List Int)):Prop:=l.Pairwise fun a b=>hd a < hd b
theorem putS_true {row:List Int}:∀ (l acc:List (List Int)),(∀ r∈l,hd row < hd r)→l.foldl (putS row) (acc,true) = (acc ++ l,true)
 | [],acc,_=>by simp
 | r :: l,acc,h=>by
   have h1:=h r (by simp)
   have e:putS row (acc,true) r = (acc ++ [r],true):=by
    unfold putS
    rw [if_neg (by omega),if_neg (by simp)]
   rw [List.foldl_cons,e,putS_true l _ fun x hx=>h x (List.mem_cons_of_mem _ hx)]
   simp
theorem putS_false {row:List Int}:∀ (l acc:List (List Int)),AscR l→l.foldl (putS row) (acc,false) =
 if (l.any fun r=>decide (hd row < hd r)) = true then (acc ++ l.filter (fun r=>decide (hd r < hd row)) ++ row :: l.filter (fun r=>decide (hd row < hd r)),true)
 else (acc ++ l.filter (fun r=>decide (hd r < hd row)),false)
 | [],acc,_=>by simp
 | r :: l,acc,h=>by
   obtain ⟨h1,h2⟩:=List.pairwise_cons.1 h
   rw [List.foldl_cons]
   by_cases e1:hd r = hd row
   ·have e:putS row (acc,false) r = (acc,false):=by unfold putS;rw [if_pos e1]
    have d1:decide (hd row < hd r) = false:=by simp;omega
    have d2:decide (hd r < hd row) = false:=by simp;omega
    rw [e,putS_false l acc h2,List.any_cons,List.filter_cons,List.filter_cons,d1,d2]
    simp
   ·by_cases e2:hd r > hd row
    ·have e:putS row (acc,false) r = (acc ++ [row] ++ [r],true):=by unfold putS;rw [if_neg e1,if_pos ⟨e2,rfl⟩]
     have hall:∀ x∈l,hd row < hd x:=fun x hx=>by have:=h1 x hx;omega
     have d1:decide (hd row < hd r) = true:=by simp;omega
     have d2:decide (hd r < hd row) = false:=by simp;omega
     have f1:l.filter (fun r=>decide (hd row < hd r)) = l:=List.filter_eq_self.2 fun x hx=>by simpa using hall x hx
     have f2:l.filter (fun r=>decide (hd r < hd row)) = []:=List.filter_eq_nil_iff.2 fun x hx=>by have:=hall x hx;simp;omega
     rw [e,putS_true l _ hall,List.any_cons,List.filter_cons,List.filter_cons,d1,d2,f1,f2]
     simp
    ·have e:putS row (acc,false) r = (acc ++ [r],false):=by
      unfold putS
      rw [if_neg e1,if_neg (fun k=>e2 k.1)]
     have d1:decide (hd row < hd r) = false:=by simp;omega
     have d2:decide (hd r < hd row) = true:=by simp;omega
     rw [e,putS_false l _ h2,List.any_cons,List.filter_cons,List.filter_cons,d1,d2]
     simp
theorem putR_eq {l:List (List Int)} {row:List Int} (h:AscR l):putR l row = l.filter (fun r=>decide (hd r < hd row)) ++ row :: l.filter (fun r=>decide (hd row < hd r)):=by
 unfold putR
 rw [putS_false l [] h]
 by_cases e:(l.any fun r=>decide (hd row < hd r)) = true
 ·rw [if_pos e];simp
 ·rw [if_neg e]
  have f1:l.filter (fun r=>decide (hd row < hd r)) = []:=List.filter_eq_nil_iff.2 fun x hx=>by
   intro k
   exact e (List.any_eq_true.2 ⟨x,hx,k⟩)
  rw [f1]
  simp
theorem putR_asc {l:List (List Int)} {row:List Int} (h:AscR l):AscR (putR l row):=by
 rw [putR_eq h]
 unfold AscR
 rw [List.pairwise_append]
 refine ⟨h.filter _,List.pairwise_cons.2 ⟨fun x hx=>?_,h.filter _⟩,fun a ha b hb=>?_⟩
 ·have:=(List.mem_filter.1 hx).2
  simpa using this
 ·have h1:=(List.mem_filter.1 ha).2
  rcases List.mem_cons.1 hb with rfl | hb
  ·simpa using h1
  ·have h2:=(List.mem_filter.1 hb).2
   simp only [decide_eq_true_eq] at h1 h2
   omega
theorem putR_mem {l:List (List Int)} {row r:List Int} (h:AscR l):r∈putR l row↔r = row∨(r∈l∧hd r≠hd row):=by
 rw [putR_eq h,List.mem_append,List.mem_cons,List.mem_filter,List.mem_filter]
 simp only [decide_eq_true_eq]
 constructor
 ·rintro (⟨a,b⟩ | a | ⟨a,b⟩)
  ·exact .inr ⟨a,by omega⟩
  ·exact .inl a
  ·exact .inr ⟨a,by omega⟩
 ·rintro (a | ⟨a,b⟩)
  ·exact .inr (.inl a)
  ·by_cases c:hd r < hd row
   ·exact .inl ⟨a,c⟩
   ·exact .inr (.inr ⟨a,by omega⟩)
theorem putR_len (l:List (List Int)) (row:List Int):(putR l row).length≤l.length + 1:=by
 have key:∀ (l:List (List Int)) (x:List (List Int)×Bool),(l.foldl (putS row) x).1.length + (if (l.foldl (putS row) x).2 then 0 else 1)≤x.1.length + (if x.2 then 0 else 1) + l.length:=by
  intro l
  induction l with
  | nil=>intro x;simp only [List.foldl_nil,List.length_nil,Nat.add_zero];exact Nat.le_refl _
  | cons r l ih=>
    intro x
    have h1:=ih (putS row x r)
    have h2:(putS row x r).1.length + (if (putS row x r).2 then 0 else 1)≤x.1.length + (if x.2 then 0 else 1) + 1:=by
     unfold putS
     split
     ·omega
     ·split
      ·rename_i h;rw [h.2];simp
      ·simp;omega
    rw [List.foldl_cons,List.length_cons]
    omega
 have:=key l ([],false)
 unfold putR
 simp only [List.length_nil,Bool.false_eq_true,if_false] at this
 dsimp only
 split
 ·rename_i h;rw [h] at this;simp at this;omega
 ·rename_i h
  rw [if_neg h] at this
  rw [List.length_append]
  simp
  omega
end Go.Proofs
set_option linter.unusedSimpArgs false
set_option linter.unusedVariables false
namespace Go.Proofs
open Go Go.TL
theorem pw_of {α:Type} [Inhabited α] {f:α→Int} {l:List α} (h:∀ i,0 < i→i < l.length→f (l.getD (i - 1) default) < f (l.getD i default)):l.Pairwise fun a b=>f a < f b:=by
 rw [List.pairwise_iff_getElem]
 have key:∀ (d i:Nat) (hj:i + d + 1 < l.length),f (l[i]'(by omega)) < f l[i + d + 1]:=by
  intro d
  induction d with
  | zero=>
    intro i hj
    have:=h (i + 1) (by omega) (by omega)
    rw [getD_get (by omega),getD_get (by omega)] at this
    simpa using this
  | succ d ih=>
    intro i hj
    have h1:=ih i (by omega)
    have h2:=h (i + d + 1 + 1) (by omega) (by omega)
    rw [getD_get (by omega),getD_get (by omega)] at h2
    simp only [Nat.add_sub_cancel] at h2
    have e:i + (d + 1) + 1 = i + d + 1 + 1:=by omega
    simp only [e]
    omega
 intro i j hi hj hij
 have:=key (j - i - 1) i (by omega)
 have e:i + (j - i - 1) + 1 = j:=by omega
 simp only [e] at this
 exact this
theorem pw_at {α:Type} [Inhabited α] {f:α→Int} {l:List α} (h:l.Pairwise fun a b=>f a < f b) {i:Nat} (h0:0 < i) (hi:i < l.length):f (l.getD (i - 1) default) < f (l.getD i default):=by
 rw [getD_get (by omega),getD_get hi]
 exact List.pairwise_iff_getElem.1 h (i - 1) i (by omega) hi (by omega)
structure SrcOk (s:Src):Prop where
 sch:schE s.sch = 0
 nr:s.rows.length≤200
 ng:s.gone.length≤300
 ver:0≤s.ver∧s.ver≤300
 rows:∀ r∈s.rows,rowE s.sch r = 0
 asc:AscR s.rows
 gone:∀ g∈s.gone,1≤g∧g≤1048575∧findR s g < 0
 gasc:s.gone.Pairwise fun a b=>a < b
theorem row_pos {s:Sch} {r:List Int} (h:rowE s r = 0):0 < r.length:=by
 obtain ⟨h1,h2,_⟩:=rowE_ok h
 have:=(schE_ok h1).nc
 omega
theorem findR_neg {s:Src} {id:Int}:findR s id < 0↔∀ r∈s.rows,atR id r = false:=by
 unfold findR
 split
 ·rename_i h
  obtain ⟨r,h1,h2⟩:=List.any_eq_true.1 h
  constructor
  ·intro h3;omega
  ·intro h3;rw [h3 r h1] at h2;cases h2
 ·rename_i h
  constructor
  ·intro _ r hr
   cases e:atR id r with
   | false=>rfl
   | true=>exact absurd (List.any_eq_true.2 ⟨r,hr,e⟩) h
  ·intro _;omega
theorem srcB_ok {s:Src}:srcB s = true↔SrcOk s:=by
 unfold srcB rowsOk2 goneOk asc2
 simp only [Bool.and_eq_true,beq_iff_eq,decide_eq_true_eq,List.all_eq_true,List.mem_range,Bool.or_eq_true]
 constructor
 ·rintro ⟨⟨⟨⟨⟨⟨h1,h2⟩,h3⟩,h4⟩,h5⟩,h6⟩,h7⟩
  refine ⟨h1,h2,h3,⟨h4,h5⟩,fun r hr=>?_,?_,fun g hg=>?_,?_⟩
  ·obtain ⟨i,hi,rfl⟩:=List.getElem_of_mem hr
   have:=(h6 i hi).1
   rw [getD_get hi] at this
   exact this
  ·exact pw_of (f:=hd) fun i h0 hi=>((h6 i hi).2.resolve_left (by omega))
  ·obtain ⟨i,hi,rfl⟩:=List.getElem_of_mem hg
   obtain ⟨⟨⟨a,b⟩,c⟩,d⟩:=h7 i hi
   rw [getD_get hi] at a b d
   exact ⟨a,b,d⟩
  ·exact pw_of (f:=fun x:Int=>x) fun i h0 hi=>((h7 i hi).1.2.resolve_left (by omega))
 ·intro h
  refine ⟨⟨⟨⟨⟨⟨h.sch,h.nr⟩,h.ng⟩,h.ver.1⟩,h.ver.2⟩,fun i hi=>⟨?_,?_⟩⟩,fun i hi=>⟨⟨⟨?_,?_⟩,?_⟩,?_⟩⟩
  ·rw [getD_get hi];exact h.rows _ (List.getElem_mem hi)
  ·by_cases e:i = 0
   ·exact .inl e
   ·exact .inr (pw_at (f:=hd) h.asc (by omega) hi)
  ·rw [getD_get hi];exact (h.gone _ (List.getElem_mem hi)).1
  ·rw [getD_get hi];exact (h.gone _ (List.getElem_mem hi)).2.1
  ·by_cases e:i = 0
   ·exact .inl e
   ·exact .inr (pw_at (f:=fun x:Int=>x) h.gasc (by omega) hi)
  ·rw [getD_get hi];exact (h.gone _ (List.getElem_mem hi)).2.2
theorem atR_ok {s:Sch} {r:List Int} (h:rowE s r = 0) (id:Int):atR id r = (hd r == id):=by
 unfold atR
 rw [decide_eq_true (row_pos h),Bool.true_and]
theorem putR_len_in {l:List (List Int)} {row:List Int} (h:AscR l) (hk:∃ r∈l,hd r = hd row):(putR l row).length≤l.length:=by
 obtain ⟨r,hr,e⟩:=hk
 rw [putR_eq h,List.length_append,List.length_cons]
 obtain ⟨i,hi,rfl⟩:=List.getElem_of_mem hr
 have h1:l = l.take i ++ l[i] :: l.drop (i + 1):=by rw [← List.drop_eq_getElem_cons hi,List.take_append_drop]
 have f1:(l.filter fun r=>decide (hd r < hd row)).length + (l.filter fun r=>decide (hd row < hd r)).length≤(l.take i).length + (l.drop (i + 1)).length:=by
  rw [h1,List.filter_append,List.filter_append,List.filter_cons,List.filter_cons,decide_eq_false (by omega),decide_eq_false (by omega),← h1]
  have key:∀ m:List (List Int),(m.filter fun r=>decide (hd r < hd row)).length + (m.filter fun r=>decide (hd row < hd r)).length≤m.length:=by
   intro m
   induction m with
   | nil=>simp
   | cons x m ih=>
     rw [List.filter_cons,List.filter_cons,List.length_cons]
     by_cases a:hd x < hd row
     ·rw [decide_eq_true a,decide_eq_false (by omega)]
      simp only [if_true,Bool.false_eq_true,if_false,List.length_cons];omega
     ·rw [decide_eq_false a]
      by_cases b:hd row < hd x
      ·rw [decide_eq_true b];simp only [if_true,Bool.false_eq_true,if_false,List.length_cons];omega
      ·rw [decide_eq_false b];simp only [Bool.false_eq_true,if_false];omega
  have k1:=key (l.take i)
  have k2:=key (l.drop (i + 1))
  simp only [Bool.false_eq_true,if_false,List.length_append]
  omega
 rw [List.length_take,List.length_drop] at f1
 omega
theorem putI_mem {l:List Int} {n x:Int}:x∈putI l n↔x = n∨x∈l:=So.insU_mem So.eqI2_iff
theorem lt_pw {l:List Int}:(l.Pairwise fun a b=>a < b)↔l.Pairwise fun a b=>So.ltI a b = true:=by
 constructor
 ·exact fun h=>h.imp fun k=>decide_eq_true k
 ·exact fun h=>h.imp fun k=>of_decide_eq_true k
theorem putI_asc {l:List Int} {n:Int} (h:l.Pairwise fun a b=>a < b):(putI l n).Pairwise fun a b=>a < b:=lt_pw.2 (So.insU_srt So.ltI_ord So.ltI_tot So.ltI_trans So.eqI2_iff (lt_pw.1 h))
theorem putI_len (l:List Int) (n:Int):(putI l n).length≤l.length + 1:=So.insU_len
theorem apply_ok {s:Src} {e:Edt} (h:SrcOk s) (hg:(s.gone.length:Int)≤s.ver) (he:applyE s e = 0):SrcOk (applyS s e)∧((applyS s e).gone.length:Int)≤(applyS s e).ver:=by
 have hv:=h.ver
 have e0:applyS s e = ⟨s.sch,applyR s e,if e.kind = 4 then putI s.gone e.id else s.gone,s.ver + 1⟩:=by rw [applyS,if_neg (by rw [he];simp)]
 rw [e0]
 unfold applyE at he
 split at he
 ·cases he
 rename_i hv2
 have hv3:s.ver≠300:=fun k=>hv2 (.inr k)
 by_cases k12:e.kind = 1∨e.kind = 2
 ·rw [if_pos k12] at he
  have hk4:¬ e.kind = 4:=by omega
  simp only [applyR,if_pos k12,if_neg hk4]
  split at he
  ·rename_i h1;exact absurd he h1
  rename_i h1
  have hrow:rowE s.sch e.row = 0:=Classical.byContradiction h1
  split at he
  ·cases he
  rename_i h2
  have hng:hd e.row∉s.gone:=by simpa using h2
  split at he
  ·cases he
  rename_i h3
  split at he
  ·cases he
  rename_i h4
  split at he
  ·cases he
  rename_i h5
  refine ⟨⟨h.sch,?_,h.ng,by dsimp only;omega,fun r hr=>?_,putR_asc h.asc,fun g hgm=>?_,h.gasc⟩,by omega⟩
  ·dsimp only
   rcases k12 with k | k
   ·have:=putR_len s.rows e.row
    have hn:=h.nr
    have:s.rows.length≠200:=fun q=>h4 ⟨k,q⟩
    omega
   ·have hf:¬ findR s (hd e.row) < 0:=fun q=>h5 ⟨k,q⟩
    refine Nat.le_trans (putR_len_in h.asc ?_) h.nr
    refine Classical.byContradiction fun hno=>hf (findR_neg.2 fun r hr=>?_)
    rw [atR_ok (h.rows r hr),beq_eq_false_iff_ne]
    exact fun q=>hno ⟨r,hr,q⟩
  ·rcases (putR_mem h.asc).1 hr with hr | hr
   ·rw [hr];exact hrow
   ·exact h.rows r hr.1
  ·obtain ⟨g1,g2,g3⟩:=h.gone g hgm
   refine ⟨g1,g2,findR_neg.2 fun r hr=>?_⟩
   rcases (putR_mem h.asc).1 hr with hr | hr
   ·rw [hr,atR_ok hrow,beq_eq_false_iff_ne]
    exact fun q=>hng (q ▸ hgm)
   ·exact findR_neg.1 g3 r hr.1
 ·simp only [applyR,if_neg k12]
  rw [if_neg k12] at he
  have hsub:∀ r∈dropR s.rows e.id,r∈s.rows:=fun r hr=>(List.mem_filter.1 hr).1
  have hlen:(dropR s.rows e.id).length≤200:=Nat.le_trans (List.length_filter_le _ _) h.nr
  by_cases k4:e.kind = 4
  ·rw [if_neg (by omega),if_pos k4] at he
   simp only [if_pos k4]
   split at he
   ·cases he
   rename_i h1
   have hpl:=putI_len s.gone e.id
   refine ⟨⟨h.sch,hlen,by dsimp only;omega,by dsimp only;omega,fun r hr=>h.rows r (hsub r hr),h.asc.filter _,fun g hgm=>?_,putI_asc h.gasc⟩,by omega⟩
   rcases putI_mem.1 hgm with hgm | hgm
   ·rw [hgm]
    refine ⟨by omega,by omega,findR_neg.2 fun r hr=>?_⟩
    obtain ⟨a,b⟩:=List.mem_filter.1 hr
    rw [atR_ok (h.rows r a)]
    simpa using b
   ·obtain ⟨g1,g2,g3⟩:=h.gone g hgm
    exact ⟨g1,g2,findR_neg.2 fun r hr=>findR_neg.1 g3 r (hsub r hr)⟩
  ·simp only [if_neg k4]
   refine ⟨⟨h.sch,hlen,h.ng,by dsimp only;omega,fun r hr=>h.rows r (hsub r hr),h.asc.filter _,fun g hgm=>?_,h.gasc⟩,by omega⟩
   obtain ⟨g1,g2,g3⟩:=h.gone g hgm
   exact ⟨g1,g2,findR_neg.2 fun r hr=>findR_neg.1 g3 r (hsub r hr)⟩
theorem atS_ok:∀ {l:List Edt} {s:Src},SrcOk s→(s.gone.length:Int)≤s.ver→(atS s l).2 = 0→SrcOk (atS s l).1∧((atS s l).1.gone.length:Int)≤(atS s l).1.ver∧(atS s l).1.sch = s.sch
 | [],s,h,hg,_=>⟨h,hg,rfl⟩
 | e :: l,s,h,hg,he=>by
   unfold atS at he ⊢
   split
   ·rename_i h1;rw [if_pos h1] at he;exact absurd he h1
   ·rename_i h1
    rw [if_neg h1] at he
    have h1:applyE s e = 0:=Classical.byContradiction h1
    obtain ⟨a,b⟩:=apply_ok h hg h1
    obtain ⟨c,d,f⟩:=atS_ok a b he
    refine ⟨c,d,f.trans ?_⟩
    rw [applyS,if_neg (by rw [h1];simp)]
end Go.Proofs
set_option linter.unusedSimpArgs false
set_option linter.unusedVariables false
namespace Go.Proofs
open Go Go.TL
set_option maxHeartbeats 4000000
open So
theorem getD_hd {r:List Int} (h:0 < r.length):(r.map vI).getD 0 .junk = vI (hd r):=by rw [getD_mapT h,hd,getD_get h]
theorem putS_len (row:List Int):∀ (l:List (List Int)) (x:List (List Int)×Bool),(l.foldl (putS row) x).1.length≤x.1.length + l.length + 1
 | l,x=>by
   have key:∀ (l:List (List Int)) (x:List (List Int)×Bool),(l.foldl (putS row) x).1.length + (if (l.foldl (putS row) x).2 then 0 else 1)≤x.1.length + (if x.2 then 0 else 1) + l.length:=by
    intro l
    induction l with
    | nil=>intro x;simp only [List.foldl_nil,List.length_nil,Nat.add_zero];exact Nat.le_refl _
    | cons r l ih=>
      intro x
      have h1:=ih (putS row x r)
      have h2:(putS row x r).1.length + (if (putS row x r).2 then 0 else 1)≤x.1.length + (if x.2 then 0 else 1) + 1:=by
       unfold putS
       split
       ·omega
       ·split
        ·rename_i h;rw [h.2];simp
        ·simp;omega
      rw [List.foldl_cons,List.length_cons]
      omega
   have:=key l x
   split at this <;> split at this <;> omega
theorem c_ref04_Put (l:List (List Int)) (row:List Int) (hl:l.length < 1000000000) (hr:∀ r∈l,0 < r.length) (h0:0 < row.length):Spc Tryz.prog F_ref04_Put [vRw l,vIs row] [] (vRw (putR l row)) []:=by
 have hP:putR l row = if (l.foldl (putS row) ([],false)).2 then (l.foldl (putS row) ([],false)).1 else (l.foldl (putS row) ([],false)).1 ++ [row]:=rfl
 have hS:=fun i=>putS_len row (l.take i) ([],false)
 have hg0:=getD_hd h0
 refine spec_of_ir fn_ref04_Put mixm (by simp) fun e _ hst=>W_start ?_
 unfold ir_ref04_Put
 refine sW ?_
 refine W_loopF mixm (α:=Nat×List (List Int)×Bool) [5,6,7] (fun x=>x.1≤l.length∧x.2 = (l.take x.1).foldl (putS row) ([],false)) (fun x=>[(5,.asl 1 x.2.1.length),(6,vB x.2.2),(7,vI x.1)]) (fun x=>[(1,.arr 1 (x.2.1.map vIs) false)]) (fun x=>l.length - x.1) (0,[],false) ⟨by simp,by simp⟩ ?_ fun x hx=>?_
 ·exact .oA [(1,none)] []
 obtain ⟨i,a,b⟩:=x
 obtain ⟨x1,x2⟩:=hx
 dsimp only at x1 x2
 have hSi:=hS i
 rw [← x2] at hSi
 simp only [List.length_nil,List.length_take] at hSi
 refine sD ?_
 refine ⟨fun h=>?_,fun h=>?_⟩
 ·have hi2:i < l.length:=by omega
  have hwi:=i64_succ (i:=i) (by omega)
  have hs:(l.take (i + 1)).foldl (putS row) ([],false) = putS row (a,b) l[i]:=by rw [take_snoc hi2,List.foldl_append,← x2];rfl
  have hrp:=hr _ (List.getElem_mem hi2)
  have hgi:=getD_hd hrp
  have hr2:putS row (a,b) l[i] = if hd l[i] = hd row then (a,b) else if hd l[i] > hd row∧b = false then (a ++ [row] ++ [l[i]],true) else (a ++ [l[i]],b):=rfl
  rw [hr2] at hs
  simp only [tZ,↓un_u,simprocAttr,Int.toNat_natCast,getD_mapT hi2,hgi,hg0,tD,beq_iff_eq,beq_eq_false_iff_ne,Bool.not_eq_true',Bool.not_eq_false',hwi]
  refine ⟨by omega,by omega,by omega,by kernel_rfl,fun h2=>?_,fun h2=>⟨by omega,by omega,by omega,by kernel_rfl,fun h3=>?_,fun h3=>?_⟩⟩
  ·rw [if_pos h2] at hs
   refine ⟨(i + 1,a,b),⟨by dsimp only;omega,hs.symm⟩,by dsimp only;omega,?_⟩
   exact .oA [(1,some 1)] []
  ·rw [if_neg h2,if_pos h3] at hs
   refine ⟨by omega,by omega,by omega,(i + 1,a ++ [row] ++ [l[i]],true),⟨by dsimp only;omega,hs.symm⟩,by dsimp only;omega,?_⟩
   exact .oA [(1,some 1)] []
  ·rw [if_neg h2,if_neg (by grind)] at hs
   refine ⟨by omega,by omega,(i + 1,a ++ [l[i]],b),⟨by dsimp only;omega,hs.symm⟩,by dsimp only;omega,?_⟩
   exact .oA [(1,some 1)] []
 ·have hil:i = l.length:=by omega
  subst hil
  rw [List.take_length] at x2
  rw [← x2] at hP
  dsimp only at hP
  simp only [tZ,↓un_u,simprocAttr,Bool.not_eq_true',Bool.not_eq_false']
  refine ⟨fun h2=>?_,fun h2=>?_⟩
  ·rw [hP,h2,if_neg (by simp)]
   refine ⟨by omega,?_⟩
   show EndOk [] _ _ (.sl 1 ((a ++ [row]).map vIs)) []
   rw [List.map_append]
   exact .oA [] [1]
  ·rw [hP,if_pos h2]
   exact .oA [] [1]
theorem c_ref04_Drop (l:List (List Int)) (id:Int) (hl:l.length < 1000000000) (hr:∀ r∈l,0 < r.length):Spc Tryz.prog F_ref04_Drop [vRw l,vI id] [] (vRw (dropR l id)) []:=by
 refine spec_of_ir fn_ref04_Drop mixm (by simp) fun e _ hst=>W_start ?_
 unfold ir_ref04_Drop
 refine sW ?_
 refine W_loopF mixm (α:=Nat) [5,6] (fun i=>i≤l.length) (fun i=>[(5,.asl 1 (dropR (l.take i) id).length),(6,vI i)]) (fun i=>[(1,.arr 1 ((dropR (l.take i) id).map vIs) false)]) (fun i=>l.length - i) 0 (by omega) ?_ fun i hi=>?_
 ·exact .oA [(1,none)] []
 have hfl:=List.length_filter_le (fun r=>hd r != id) (l.take i)
 rw [List.length_take] at hfl
 refine sD ?_
 refine ⟨fun h=>?_,fun h=>?_⟩
 ·have hi2:i < l.length:=by omega
  have hwi:=i64_succ (i:=i) (by omega)
  have hgi:=getD_hd (hr _ (List.getElem_mem hi2))
  have hrp:=hr _ (List.getElem_mem hi2)
  have hs:dropR (l.take (i + 1)) id = dropR (l.take i) id ++ if (hd l[i] != id) = true then [l[i]] else []:=by
   unfold dropR
   rw [take_snoc hi2,List.filter_append,List.filter_cons,List.filter_nil]
  simp only [tZ,↓un_u,simprocAttr,Int.toNat_natCast,getD_mapT hi2,hgi,hwi]
  refine ⟨by omega,by omega,fun h2=>?_,fun h2=>?_⟩
  ·rw [if_pos h2] at hs
   refine ⟨by omega,by unfold dropR;omega,i + 1,by omega,by omega,?_⟩
   rw [hs]
   exact .oA [(1,some 1)] []
  ·rw [if_neg (by rw [h2];simp),List.append_nil] at hs
   refine ⟨i + 1,by omega,by omega,?_⟩
   rw [hs]
   exact .oA [(1,some 1)] []
 ·have hil:i = l.length:=by omega
  subst hil
  rw [List.take_length]
  exact .oA [] [1]
theorem c_ref04_Find (s:Src) (id:Int) (hl:s.rows.length < 4611686018427387904):Spc Tryz.prog F_ref04_Find [srcT s,vI id] [] (vI (findR s id)) []:=by
 refine spec_of_ir fn_ref04_Find mixm (by simp) fun e _ hst=>W_start ?_
 unfold ir_ref04_Find
 refine sW ?_
 refine W_loopF mixm (α:=Nat) [5] (fun i=>i≤s.rows.length∧(s.rows.take i).any (atR id) = false) (fun i=>[(5,vI i)]) (fun i=>[(4096,.arr 5 [srcT s] false)]) (fun i=>s.rows.length - i) 0 ⟨by omega,rfl⟩ ?_ fun i hi=>?_
 ·exact .oA [(4096,some 4096)] []
 refine sD ?_
 refine ⟨fun h=>?_,fun h=>?_⟩
 ·have hi2:i < s.rows.length:=by omega
  have hwi:=i64_succ (i:=i) (by omega)
  have hno:atR id s.rows[i] = false→∃ y,(y≤s.rows.length∧(s.rows.take y).any (atR id) = false)∧s.rows.length - y < s.rows.length - i∧Le e ⟨[(1,vI id),(2,.ptr 4096 1 0 0),(5,vI ((i + 1:Nat):Int))],[(4096,.arr 5 [srcT s] false)]⟩ ⟨[(5,vI y),(1,vI id),(2,.ptr 4096 1 0 0)],[(4096,.arr 5 [srcT s] false)]⟩:=fun h3=>by
   refine ⟨i + 1,⟨by omega,any_snoc hi2 hi.2 h3⟩,by omega,?_⟩
   exact .oA [(4096,some 4096)] []
  have hat:atR id s.rows[i] = (decide (0 < s.rows[i].length) && (hd s.rows[i] == id)):=rfl
  rcases Nat.eq_zero_or_pos s.rows[i].length with h0 | h0
  ·have e0:decide ((s.rows[i].length:Int) > 0) = false:=decide_eq_false (by omega)
   have hgj:(s.rows[i].map vI).getD 0 .junk = .junk:=getD_out (by omega)
   simp only [tZ,↓un_u,simprocAttr,Int.toNat_natCast,getD_mapT hi2,e0,hgj,hwi]
   exact ⟨by omega,hno (by rw [hat,decide_eq_false (by omega)];rfl)⟩
  ·have e0:decide ((s.rows[i].length:Int) > 0) = true:=decide_eq_true (by omega)
   rw [decide_eq_true h0,Bool.true_and] at hat
   simp only [tZ,↓un_u,simprocAttr,Int.toNat_natCast,getD_mapT hi2,e0,getD_hd h0,hwi]
   refine ⟨by omega,by omega,by omega,fun h3=>?_,fun h3=>hno (by rw [hat];exact h3)⟩
   rw [findR,if_pos (any_at hi2 (by rw [hat];exact h3)),findIdx_at hi2 hi.2 (by rw [hat];exact h3)]
   exact .oA [] []
 ·have hil:i = s.rows.length:=by omega
  subst hil
  have h2:=hi.2
  rw [List.take_length] at h2
  rw [findR,if_neg (by rw [h2];simp)]
  exact .oA [] []
def SrcSm (s:Src):Prop:=SchSm s.sch∧∀ r∈s.rows,r.length < 4611686018427387904
def rowP (s:Src) (i:Nat):Bool:=(rowE s.sch (s.rows.getD i []) == 0) && (decide (i = 0) || decide (hd (s.rows.getD (i - 1) []) < hd (s.rows.getD i [])))
def goneP (s:Src) (i:Nat):Bool:=decide (1≤s.gone.getD i 0) && decide (s.gone.getD i 0≤1048575) && asc2 s.gone i && decide (findR s (s.gone.getD i 0) < 0)
theorem c_ref04_Valid (s:Src) (hs:SrcSm s):Spc Tryz.prog F_ref04_Valid [srcT s] [] (vB (srcB s)) []:=by
 obtain ⟨hs1,hs2⟩:=hs
 have hB:srcB s = ((schE s.sch == 0) && decide (s.rows.length≤200) && decide (s.gone.length≤300) && decide (0≤s.ver) && decide (s.ver≤300) && (List.range s.rows.length).all (rowP s) && (List.range s.gone.length).all (goneP s)):=rfl
 refine spec_of_ir fn_ref04_Valid mixm (by simp) fun e _ hst=>W_start ?_
 unfold ir_ref04_Valid
 refine sW ?_
 refine C1.im (c_ref02_Check s.sch hs1) (by rfl) (by rfl) ?_
 simp only [tZ,↓un_u,simprocAttr,tD,bne_iff_ne,bne_eq_false_iff_eq]
 refine ⟨fun h=>?_,fun h=>?_⟩
 ·rw [show srcB s = false by rw [hB];grind]
  exact .oA [] []
 have hB2:srcB s = ((List.range s.rows.length).all (rowP s) && (List.range s.gone.length).all (goneP s)):=by rw [hB];grind
 clear hB
 refine W_loopF mixm (α:=Nat) [3,30] (fun i=>i≤s.rows.length∧(List.range i).all (rowP s) = true) (fun i=>[(3,vI i)]) (fun i=>[(4096,.arr 5 [srcT s] false)]) (fun i=>s.rows.length - i) 0 ⟨by omega,rfl⟩ ?_ fun i hi=>?_
 ·exact .oA [(4096,some 4096)] []
 obtain ⟨i1,i2⟩:=hi
 refine sD ?_
 refine ⟨fun h2=>?_,fun h2=>?_⟩
 ·have hi2:i < s.rows.length:=by omega
  have hwi:=i64_succ (i:=i) (by omega)
  have hpi:s.rows.getD i [] = s.rows[i]:=getD_get hi2
  have hbad:rowP s i = false→srcB s = false:=fun k=>by rw [hB2,all_no hi2 k];rfl
  have hgd:rowP s i = true→(List.range (i + 1)).all (rowP s) = true:=fun k=>by rw [all_succ,i2,k];rfl
  have hP:rowP s i = ((rowE s.sch s.rows[i] == 0) && (decide (i = 0) || decide (hd (s.rows.getD (i - 1) []) < hd s.rows[i]))):=by rw [rowP,hpi]
  simp only [tZ,↓un_u,simprocAttr,Int.toNat_natCast,getD_mapT hi2]
  refine ⟨by omega,?_⟩
  refine C1.im (c_ref02_Row s.sch hs1 s.rows[i] (hs2 _ (List.getElem_mem hi2))) (by rfl) (by rfl) ?_
  by_cases hR:rowE s.sch s.rows[i] = 0
  case neg=>
   have e0:(rowE s.sch s.rows[i] != 0) = true:=bne_iff_ne.2 hR
   rw [hbad (by rw [hP,beq_eq_false_iff_ne.2 hR];rfl)]
   rcases Nat.eq_zero_or_pos i with hi0 | hi0
   ·subst hi0
    have hz:((0:Nat):Int) = 0:=rfl
    have hz2:(IntKind.i64.wrap (-1)).toNat = 0:=by decide
    rcases Nat.eq_zero_or_pos s.rows[0].length with h0 | h0
    ·have hgj:(s.rows[0].map vI).getD 0 .junk = .junk:=getD_out (by omega)
     simp only [tZ,↓un_u,simprocAttr,e0,Int.toNat_natCast,hz,beq_self_eq_true,gt_iff_lt,Int.lt_irrefl,Bool.true_and,hz2,getD_mapT hi2,hgj]
     refine ⟨by kernel_rfl,?_⟩
     exact .oA [] []
    ·simp only [tZ,↓un_u,simprocAttr,e0,Int.toNat_natCast,hz,beq_self_eq_true,gt_iff_lt,Int.lt_irrefl,Bool.true_and,hz2,getD_mapT hi2,getD_hd h0]
     refine ⟨by kernel_rfl,?_⟩
     exact .oA [] []
   ·obtain ⟨k,rfl⟩:∃ k,i = k + 1:=⟨i - 1,by omega⟩
    have hk3:k < s.rows.length:=by omega
    have e2:decide (((k + 1:Nat):Int) > 0) = true:=decide_eq_true (by omega)
    have e3:=i64_pred (i:=k + 1) (by omega) (by omega)
    rw [Nat.add_sub_cancel] at e3
    have hkp:0 < s.rows[k].length:=by
     have:=List.all_eq_true.1 i2 k (List.mem_range.2 (by omega))
     rw [rowP,getD_get hk3,Bool.and_eq_true,beq_iff_eq] at this
     exact row_pos this.1
    rcases Nat.eq_zero_or_pos s.rows[k + 1].length with h0 | h0
    ·have hgj:(s.rows[k + 1].map vI).getD 0 .junk = .junk:=getD_out (by omega)
     simp only [tZ,↓un_u,simprocAttr,e0,Int.toNat_natCast,getD_mapT hi2,getD_mapT hk3,e2,e3,hgj,getD_hd hkp]
     refine ⟨by kernel_rfl,?_⟩
     exact .oA [] []
    ·simp only [tZ,↓un_u,simprocAttr,e0,Int.toNat_natCast,getD_mapT hi2,getD_mapT hk3,e2,e3,getD_hd h0,getD_hd hkp]
     refine ⟨by kernel_rfl,?_⟩
     exact .oA [] []
  have e0:(rowE s.sch s.rows[i] != 0) = false:=bne_eq_false_iff_eq.2 hR
  rw [beq_iff_eq.2 hR,Bool.true_and] at hP
  have hrp:=row_pos hR
  rcases Nat.eq_zero_or_pos i with hi0 | hi0
  ·subst hi0
   have hz:((0:Nat):Int) = 0:=rfl
   have hz2:(IntKind.i64.wrap (-1)).toNat = 0:=by decide
   have hz3:=i64_succ (i:=0) (by omega)
   rw [hz] at hz3
   simp only [tZ,↓un_u,simprocAttr,e0,Int.toNat_natCast,hz,beq_self_eq_true,gt_iff_lt,Int.lt_irrefl,Bool.true_and,hz2,getD_mapT hi2,hz3,getD_hd hrp]
   refine ⟨by kernel_rfl,1,⟨by omega,hgd (by rw [hP];rfl)⟩,by omega,?_⟩
   exact .oA [(4096,some 4096)] []
  ·obtain ⟨k,rfl⟩:∃ k,i = k + 1:=⟨i - 1,by omega⟩
   have hk3:k < s.rows.length:=by omega
   have e2:decide (((k + 1:Nat):Int) > 0) = true:=decide_eq_true (by omega)
   have e3:=i64_pred (i:=k + 1) (by omega) (by omega)
   rw [Nat.add_sub_cancel] at e3 hP
   rw [getD_get hk3,decide_eq_false (by omega),Bool.false_or] at hP
   have hkp:0 < s.rows[k].length:=by
    have:=List.all_eq_true.1 i2 k (List.mem_range.2 (by omega))
    rw [rowP,getD_get hk3,Bool.and_eq_true,beq_iff_eq] at this
    exact row_pos this.1
   simp only [tZ,↓un_u,simprocAttr,e0,Int.toNat_natCast,getD_mapT hi2,getD_mapT hk3,e2,e3,hwi,getD_hd hrp,getD_hd hkp,tD]
   refine ⟨by omega,by omega,by omega,by omega,by kernel_rfl,fun h4=>?_,fun h4=>?_⟩
   ·rw [hbad (by rw [hP];exact decide_eq_false (by omega))]
    exact .oA [] []
   ·refine ⟨k + 2,⟨by omega,hgd (by rw [hP];exact decide_eq_true (by omega))⟩,by omega,?_⟩
    exact .oA [(4096,some 4096)] []
 ·have hil:i = s.rows.length:=by omega
  subst hil
  rw [i2,Bool.true_and] at hB2
  have hrl:s.rows.length < 4611686018427387904:=by omega
  refine W_loopF mixm (α:=Nat) [4] (fun i=>i≤s.gone.length∧(List.range i).all (goneP s) = true) (fun i=>[(4,vI i)]) (fun i=>[(4096,.arr 5 [srcT s] false)]) (fun i=>s.gone.length - i) 0 ⟨by omega,rfl⟩ ?_ fun i hi=>?_
  ·exact .oA [(4096,some 4096)] []
  obtain ⟨j1,j2⟩:=hi
  refine sD ?_
  refine ⟨fun h2=>?_,fun h2=>?_⟩
  ·have hi2:i < s.gone.length:=by omega
   have hwi:=i64_succ (i:=i) (by omega)
   have hpi:s.gone.getD i 0 = s.gone[i]:=getD_get hi2
   have hbad:goneP s i = false→srcB s = false:=fun k=>by rw [hB2,all_no hi2 k]
   have hgd:goneP s i = true→(List.range (i + 1)).all (goneP s) = true:=fun k=>by rw [all_succ,j2,k];rfl
   have hP:goneP s i = (decide (1≤s.gone[i]) && decide (s.gone[i]≤1048575) && asc2 s.gone i && decide (findR s s.gone[i] < 0)):=by rw [goneP,hpi]
   have hF:=c_ref04_Find s s.gone[i] hrl
   rcases Nat.eq_zero_or_pos i with hi0 | hi0
   ·subst hi0
    have hz:((0:Nat):Int) = 0:=rfl
    have hz2:(IntKind.i64.wrap (-1)).toNat = 0:=by decide
    have hz3:=i64_succ (i:=0) (by omega)
    rw [hz] at hz3
    have hA:asc2 s.gone 0 = true:=rfl
    rw [hA,Bool.and_true] at hP
    simp only [tZ,↓un_u,simprocAttr,Int.toNat_natCast,hz,beq_self_eq_true,gt_iff_lt,Int.lt_irrefl,Bool.true_and,hz2,getD_mapT hi2,hz3,Bool.or_false]
    refine ⟨by omega,fun _=>by omega,fun _=>by omega,?_⟩
    refine C2.im (fun _=>hF) (fun _=>rfl) (by rfl) ?_
    simp only [tZ,↓un_u,simprocAttr,tD,hz3]
    refine ⟨by kernel_rfl,fun h4=>?_,fun h4=>?_⟩
    ·rw [hbad (by rw [hP];grind)]
     exact .oA [] []
    ·refine ⟨1,⟨by omega,hgd (by rw [hP];grind)⟩,by omega,?_⟩
     exact .oA [(4096,some 4096)] []
   ·obtain ⟨k,rfl⟩:∃ k,i = k + 1:=⟨i - 1,by omega⟩
    have hk3:k < s.gone.length:=by omega
    have e2:decide (((k + 1:Nat):Int) > 0) = true:=decide_eq_true (by omega)
    have e3:=i64_pred (i:=k + 1) (by omega) (by omega)
    rw [Nat.add_sub_cancel] at e3
    have hA:asc2 s.gone (k + 1) = decide (s.gone[k] < s.gone[k + 1]):=by
     rw [asc2,Nat.add_sub_cancel,getD_get hk3,hpi,decide_eq_false (by omega)];rfl
    rw [hA] at hP
    simp only [tZ,↓un_u,simprocAttr,Int.toNat_natCast,getD_mapT hi2,getD_mapT hk3,e2,e3]
    refine ⟨by omega,fun _=>by omega,fun _=>by omega,fun _=>by omega,fun _=>by omega,?_⟩
    refine C2.im (fun _=>hF) (fun _=>rfl) (by rfl) ?_
    simp only [tZ,↓un_u,simprocAttr,tD,hwi]
    refine ⟨by kernel_rfl,fun h4=>?_,fun h4=>?_⟩
    ·rw [hbad (by rw [hP];grind)]
     exact .oA [] []
    ·refine ⟨k + 2,⟨by omega,hgd (by rw [hP];grind)⟩,by omega,?_⟩
     exact .oA [(4096,some 4096)] []
  ·have hil:i = s.gone.length:=by omega
   subst hil
   rw [hB2,j2]
   exact .oA [] []
end Go.Proofs
set_option linter.unusedSimpArgs false
set_option linter.unusedVariables false
namespace Go.Proofs
open Go Go.TL
set_option maxHeartbeats 4000000
open So
theorem SrcOk.rowp {s:Src} (h:SrcOk s):∀ r∈s.rows,0 < r.length:=fun r hr=>row_pos (h.rows r hr)
theorem c_ref04_Apply (s:Src) (d:Edt) (hs:SrcSm s) (hd1:d.row.length < 4611686018427387904):Spc Tryz.prog F_ref04_Apply [srcT s,edtT d] [] (.tup [srcT (applyS s d),vI (applyE s d)]) []:=by
 have hE:=(rfl:applyE s d = applyE s d)
 have hS:applyS s d = if applyE s d≠0 then src0 else ⟨s.sch,applyR s d,if d.kind = 4 then putI s.gone d.id else s.gone,s.ver + 1⟩:=rfl
 conv at hE=>rhs;unfold applyE
 have hbad:∀ v,v≠0→applyE s d = v→applyS s d = src0∧applyE s d = v:=fun v h1 h2=>⟨by rw [hS,h2,if_pos h1],h2⟩
 have hgood:applyE s d = 0→applyS s d = ⟨s.sch,applyR s d,if d.kind = 4 then putI s.gone d.id else s.gone,s.ver + 1⟩:=fun h=>by rw [hS,h,if_neg (by simp)]
 clear hS
 generalize applyE s d = E at hE hbad hgood ⊢
 generalize applyS s d = A at hbad hgood ⊢
 refine spec_of_ir fn_ref04_Apply mixm (by simp) fun e _ hst=>W_start ?_
 unfold ir_ref04_Apply
 refine sW ?_
 refine C1.im (c_ref04_Valid s hs) (by rfl) (by rfl) ?_
 simp only [tZ,↓un_u,simprocAttr,tD,beq_iff_eq,beq_eq_false_iff_ne,Bool.not_eq_true',Bool.not_eq_false']
 refine ⟨fun h=>?_,fun h=>?_⟩
 ·obtain ⟨a1,a2⟩:=hbad 13 (by decide) (by rw [hE,if_pos h])
  rw [a1,a2]
  exact .oA [] []
 rw [if_neg (by grind)] at hE
 have hok:=srcB_ok.1 h.1
 have hv:=hok.ver
 have hrp:=hok.rowp
 have hnr:=hok.nr
 have hng:=hok.ng
 have hw:IntKind.i64.wrap (s.ver + 1) = s.ver + 1:=IntWalk.i64_in _ (by omega)
 have hR:applyR s d = if d.kind = 1∨d.kind = 2 then putR s.rows d.row else dropR s.rows d.id:=rfl
 have hg0:0 < d.row.length→(d.row.map vI).getD 0 .junk = vI (hd d.row):=getD_hd
 by_cases k12:d.kind = 1∨d.kind = 2
 ·rw [if_pos k12] at hE hR
  have hk4:¬ d.kind = 4:=by omega
  rw [if_neg hk4,hR] at hgood
  refine mid (fun hmain=>⟨fun k1=>⟨fun _=>hmain,fun k=>absurd k1 k⟩,fun k1=>⟨fun k2=>hmain,fun k2=>absurd k12 fun h=>h.elim k1 k2⟩⟩) ?_
  refine C1.im (c_ref02_Row s.sch hs.1 d.row hd1) (by rfl) (by rfl) ?_
  simp only [tZ,↓un_u,simprocAttr,bne_iff_ne,bne_eq_false_iff_eq]
  refine ⟨fun h2=>?_,fun h2=>?_⟩
  ·obtain ⟨a1,a2⟩:=hbad _ h2 (by rw [hE,if_pos h2])
   rw [a1,a2]
   exact .oA [] []
  rw [if_neg (by rw [h2];simp)] at hE
  have hdp:=row_pos h2
  have hdl:=(rowE_ok h2).2.1
  have hnc:=(schE_ok hok.sch).nc
  have hF:=c_ref04_Find s (hd d.row) (by omega)
  simp only [tZ,↓un_u,simprocAttr,getD_hd hdp]
  refine ⟨by omega,?_⟩
  refine C1.im (c_ref01_Has s.gone (hd d.row) (by omega)) (by rfl) (by rfl) ?_
  refine sW ?_
  refine ⟨by kernel_rfl,fun h3=>?_,fun h3=>?_⟩
  ·obtain ⟨a1,a2⟩:=hbad 20 (by decide) (by rw [hE,if_pos h3])
   rw [a1,a2]
   exact .oA [] []
  rw [if_neg (by rw [h3];simp)] at hE
  simp only [tZ,↓un_u,simprocAttr,getD_hd hdp]
  refine ⟨by omega,?_⟩
  refine C1.im hF (by rfl) (by rfl) ?_
  simp only [tZ,↓un_u,simprocAttr,tD,beq_iff_eq,beq_eq_false_iff_ne]
  refine ⟨by kernel_rfl,fun h4=>?_,fun h4=>?_⟩
  ·obtain ⟨a1,a2⟩:=hbad 10 (by decide) (by rw [hE,if_pos (by omega)])
   rw [a1,a2]
   exact .oA [] []
  rw [if_neg (by omega)] at hE
  refine ⟨fun h5=>?_,fun h5=>?_⟩
  ·obtain ⟨a1,a2⟩:=hbad 1 (by decide) (by rw [hE,if_pos (by omega)])
   rw [a1,a2]
   exact .oA [] []
  rw [if_neg (by omega)] at hE
  simp only [tZ,↓un_u,simprocAttr,tD,beq_iff_eq,beq_eq_false_iff_ne,Bool.not_eq_true',Bool.not_eq_false']
  refine ⟨fun h6=>?_,fun h6=>?_⟩
  ·obtain ⟨a1,a2⟩:=hbad 19 (by decide) (by rw [hE,if_pos (by omega)])
   rw [a1,a2]
   exact .oA [] []
  rw [if_neg (by omega)] at hE
  have a1:=hgood hE
  rw [a1,hE]
  refine ⟨by omega,?_⟩
  refine C1.shut [86032] (c_ref04_Put s.rows d.row (by omega) hrp hdp) ?_ (by rfl) rfl ?_
  ·simp only [tL,simprocAttr]
   exact ints_v _
  simp only [tZ,↓un_u,simprocAttr,hw]
  refine ⟨by kernel_rfl,?_⟩
  exact .oA [] []
 ·rw [if_neg k12] at hE hR
  rw [hR] at hgood
  refine ⟨fun k1=>absurd (.inl k1) k12,fun k1=>⟨fun k2=>absurd (.inr k2) k12,fun k2=>⟨fun k3=>?_,fun k3=>⟨fun k4=>?_,fun k4=>?_⟩⟩⟩⟩
  ·rw [if_pos k3] at hE
   rw [if_neg (by omega)] at hgood
   refine C1.im (c_ref04_Find s d.id (by omega)) (by rfl) (by rfl) ?_
   refine sD ?_
   refine ⟨fun h2=>?_,fun h2=>?_⟩
   ·obtain ⟨a1,a2⟩:=hbad 19 (by decide) (by rw [hE,if_pos h2])
    rw [a1,a2]
    exact .oA [] []
   rw [if_neg h2] at hE
   have a1:=hgood hE
   rw [a1,hE]
   refine C1.im (c_ref04_Drop s.rows d.id (by omega) hrp) (by rfl) (by rfl) ?_
   simp only [tZ,↓un_u,simprocAttr,hw]
   exact .oA [] []
  ·rw [if_neg k3,if_pos k4] at hE
   rw [if_pos k4] at hgood
   refine ⟨fun h2=>?_,fun h2=>?_⟩
   ·obtain ⟨a1,a2⟩:=hbad 2 (by decide) (by rw [hE,if_pos (by omega)])
    rw [a1,a2]
    exact .oA [] []
   rw [if_neg (by omega)] at hE
   refine C1.im (c_ref01_Has s.gone d.id (by omega)) (by rfl) (by rfl) ?_
   refine sW ?_
   refine ⟨fun h3=>?_,fun h3=>?_⟩
   ·obtain ⟨a1,a2⟩:=hbad 20 (by decide) (by rw [hE,if_pos h3])
    rw [a1,a2]
    exact .oA [] []
   rw [if_neg (by rw [h3];simp)] at hE
   have a1:=hgood hE
   rw [a1,hE]
   refine C1.im (c_ref04_Drop s.rows d.id (by omega) hrp) (by rfl) (by rfl) ?_
   refine sW ?_
   refine C1.im (c_ref01_Put s.gone d.id (by omega)) (by rfl) (by rfl) ?_
   simp only [tZ,↓un_u,simprocAttr,hw]
   exact .oA [] []
  ·rw [if_neg k3,if_neg k4] at hE
   obtain ⟨a1,a2⟩:=hbad 4 (by decide) hE
   rw [a1,a2]
   exact .oA [] []
theorem apply_sm {s:Src} {d:Edt} (h:SrcSm s) (hd1:d.row.length < 4611686018427387904) (he:applyE s d = 0):SrcSm (applyS s d):=by
 have e0:applyS s d = ⟨s.sch,applyR s d,if d.kind = 4 then putI s.gone d.id else s.gone,s.ver + 1⟩:=by rw [applyS,if_neg (by rw [he];simp)]
 rw [e0]
 refine ⟨h.1,fun r hr=>?_⟩
 dsimp only at hr
 have hb:srcB s = true:=by
  unfold applyE at he
  split at he
  ·cases he
  ·rename_i h1
   cases e:srcB s with
   | true=>rfl
   | false=>exact absurd (.inl e) h1
 unfold applyR at hr
 split at hr
 ·rcases (putR_mem (srcB_ok.1 hb).asc).1 hr with hr | hr
  ·rw [hr];exact hd1
  ·exact h.2 r hr.1
 ·exact h.2 r (List.mem_filter.1 hr).1
theorem atS_snoc:∀ (l:List Edt) (s:Src) (d:Edt),(atS s l).2 = 0→atS s (l ++ [d]) = if applyE (atS s l).1 d≠0 then (src0,applyE (atS s l).1 d) else (applyS (atS s l).1 d,0)
 | [],s,d,_=>rfl
 | x :: r,s,d,h=>by
   rw [atS] at h
   rw [List.cons_append,atS,atS]
   split at h
   ·rename_i h1;exact absurd h h1
   ·rename_i h1
    rw [if_neg h1,if_neg h1]
    exact atS_snoc r _ d h
theorem atS_stays:∀ (l m:List Edt) (s:Src),(atS s l).2≠0→atS s (l ++ m) = atS s l
 | [],m,s,h=>by simp [atS] at h
 | x :: r,m,s,h=>by
   rw [atS] at h
   rw [List.cons_append,atS,atS]
   split at h
   ·rename_i h1;rw [if_pos h1,if_pos h1]
   ·rename_i h1
    rw [if_neg h1,if_neg h1]
    exact atS_stays r m _ h
def atI (s:Src) (l:List Edt) (n:Int):Src×Int:=if n < 0∨n > l.length then (src0,13) else atS s (l.take n.toNat)
theorem c_ref04_At (s:Src) (l:List Edt) (n:Int) (hs:SrcSm s) (hd1:∀ d∈l,d.row.length < 4611686018427387904) (hl:l.length < 4611686018427387904):Spc Tryz.prog F_ref04_At [srcT s,.sl 3 (l.map edtT),vI n] [] (.tup [srcT (atI s l n).1,vI (atI s l n).2]) []:=by
 refine spec_of_ir fn_ref04_At mixm (by simp) fun e _ hst=>W_start ?_
 unfold ir_ref04_At
 refine sD ?_
 refine ⟨fun h=>?_,fun h=>?_⟩
 ·rw [atI,if_pos h]
  exact .oA [] []
 rw [atI,if_neg (by omega)]
 obtain ⟨N,rfl⟩:=Int.eq_ofNat_of_zero_le (show 0≤n by omega)
 rw [Int.toNat_natCast]
 refine W_loopF mixm (α:=Nat) [8,18] (fun i=>i≤N∧(atS s (l.take i)).2 = 0∧SrcSm (atS s (l.take i)).1) (fun i=>[(8,vI i)]) (fun i=>[(4096,.arr 5 [srcT (atS s (l.take i)).1] false),(4100,.arr 5 [srcT src0] false)]) (fun i=>N - i) 0 ⟨by omega,rfl,hs⟩ ?_ fun i hi=>?_
 ·show Le _ _ ⟨_,[(4096,.arr 5 [srcT s] false),(4100,.arr 5 [srcT src0] false)]⟩
  exact .oA [(4096,some 4096),(4100,some 4100)] []
 obtain ⟨i1,i2,i3⟩:=hi
 refine sD ?_
 refine ⟨fun h2=>?_,fun h2=>?_⟩
 ·have hi2:i < l.length:=by omega
  have hwi:=i64_succ (i:=i) (by omega)
  have hsn:=atS_snoc (l.take i) s l[i] i2
  rw [← take_snoc hi2] at hsn
  have hdr:=hd1 _ (List.getElem_mem hi2)
  generalize (atS s (l.take i)).1 = x at hsn i3 ⊢
  simp only [tZ,↓un_u,simprocAttr,Int.toNat_natCast,getD_mapT hi2]
  refine ⟨by omega,?_⟩
  refine C1.im (c_ref04_Apply x l[i] i3 hdr) (by rfl) (by rfl) ?_
  simp only [tZ,↓un_u,simprocAttr,bne_iff_ne,bne_eq_false_iff_eq,hwi]
  refine ⟨by kernel_rfl,fun h3=>?_,fun h3=>?_⟩
  ·rw [if_pos h3] at hsn
   have e1:l.take N = l.take (i + 1) ++ (l.take N).drop (i + 1):=by
    have:=(List.take_append_drop (i + 1) (l.take N)).symm
    rwa [List.take_take,Nat.min_eq_left (by omega)] at this
   have e2:atS s (l.take N) = (src0,applyE x l[i]):=by
    rw [e1,atS_stays _ _ _ (by rw [hsn];exact h3),hsn]
   rw [e2]
   exact .oA [] []
  ·rw [if_neg (by rw [h3];simp)] at hsn
   refine ⟨i + 1,⟨by omega,by rw [hsn],by rw [hsn];exact apply_sm i3 hdr h3⟩,by omega,?_⟩
   rw [hsn]
   exact .oA [(4096,some 4096),(4100,some 4100)] []
 ·have hil:i = N:=by omega
  subst hil
  rw [i2]
  exact .oA [] []
end Go.Proofs
