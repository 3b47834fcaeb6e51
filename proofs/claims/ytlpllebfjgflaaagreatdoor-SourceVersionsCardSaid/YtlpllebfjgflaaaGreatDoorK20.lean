/- A part of the proof: trees of Go values, short forms, contracts. -/
import Derived.WalkKit
import Derived.Still
import Derived.MapKept
import GoSem.Builtin.Cap
import Derived.Laws.Externs
import GoSem.Extern.SlicesOverlaps
import Derived.Carry
import Derived.ProofKit
import Derived.OpenShut
import Derived.HandedShaped
import Derived.Lay
import Derived.LaidLaws
import Derived.MakeChecks
import Derived.SevenTiedAt
import Derived.Test.YtlpllebfjgflaaaGreatDoorChecked
import Derived.Test.YtlpllebfjgflaaaGreatDoorK19
set_option linter.unusedSimpArgs false
set_option linter.unusedVariables false
namespace Go.Proofs
open Go Go.TL
set_option maxRecDepth 4000
set_option maxHeartbeats 8000000
theorem findR_has {s:Src} (h:SrcOk s) (id:Int):findR s id < 0↔hasK s.rows id = false:=by
 rw [findR_neg]
 unfold hasK
 rw [List.any_eq_false]
 constructor
 ·intro k r hr
  have:=k r hr
  rw [atR_ok (h.rows r hr)] at this
  rw [this];simp
 ·intro k r hr
  rw [atR_ok (h.rows r hr)]
  simpa using k r hr
theorem putR_ins {l:List (List Int)} {row:List Int} (h:AscR l) (hk:hasK l (hd row) = false):putR l row = insR l row:=by
 obtain ⟨p1,p2⟩:=pinR_ok (r:=row) h
 have e:pinR l row = insR l row:=by unfold pinR;rw [if_neg (by rw [hk];simp)]
 rw [e] at p1 p2
 refine asc_uniq (putR_asc h) p1 fun x=>?_
 rw [putR_mem h,p2]
 constructor
 ·rintro (a | ⟨a,_⟩)
  ·exact .inr ⟨a,hk⟩
  ·exact .inl a
 ·rintro (a | ⟨a,_⟩)
  ·refine .inr ⟨a,fun e=>?_⟩
   rw [hasK_iff.2 ⟨x,a,e⟩] at hk
   cases hk
  ·exact .inl a
theorem putR_set {l:List (List Int)} {row:List Int} (h:AscR l) (hk:hasK l (hd row) = true):putR l row = l.set (fndN l (hd row)) row:=by
 obtain ⟨f2,f3⟩:=fndN_at h hk
 have hkey:=(rowK_hd f3).1
 have hp:=List.pairwise_iff_getElem.1 h
 generalize fndN l (hd row) = i at f2 f3 hkey ⊢
 have hne:∀ (j:Nat) (hj:j < l.length),j≠i→hd l[j]≠hd row:=fun j hj e1 e2=>by
  rw [← hkey] at e2
  by_cases c:j < i
  ·have:=hp j i hj f2 c;omega
  ·have:=hp i j f2 hj (by omega);omega
 have hA:AscR (l.set i row):=by
  refine List.pairwise_iff_getElem.2 fun a b ha hb hab=>?_
  rw [List.length_set] at ha hb
  have:=hp a b ha hb hab
  rw [List.getElem_set,List.getElem_set]
  split
  ·rename_i e;subst e
   rw [if_neg (by omega)]
   omega
  ·split
   ·rename_i e;subst e;omega
   ·exact this
 refine asc_uniq (putR_asc h) hA fun x=>?_
 rw [putR_mem h]
 constructor
 ·rintro (a | ⟨a,b⟩)
  ·rw [a];exact List.mem_set f2 _
  ·obtain ⟨j,hj,rfl⟩:=List.getElem_of_mem a
   have hji:j≠i:=fun e=>by subst e;exact b hkey
   refine List.mem_iff_getElem.2 ⟨j,by rw [List.length_set];exact hj,?_⟩
   rw [List.getElem_set,if_neg (by omega)]
 ·intro a
  obtain ⟨j,hj,rfl⟩:=List.getElem_of_mem a
  rw [List.length_set] at hj
  rw [List.getElem_set]
  split
  ·exact .inl rfl
  ·rename_i e
   exact .inr ⟨List.getElem_mem hj,hne j hj (by omega)⟩
theorem dropR_del {l:List (List Int)} {id:Int} (h:AscR l) (hk:hasK l id = true):dropR l id = delR l id:=by
 obtain ⟨f2,f3⟩:=fndN_at h hk
 have hkey:=(rowK_hd f3).1
 have hp:=List.pairwise_iff_getElem.1 h
 unfold delR
 generalize fndN l id = i at f2 f3 hkey ⊢
 refine asc_uniq (h.filter _) (h.sublist (List.eraseIdx_sublist ..)) fun x=>?_
 unfold dropR
 rw [List.mem_filter,List.mem_eraseIdx_iff_getElem]
 constructor
 ·rintro ⟨a,b⟩
  obtain ⟨j,hj,rfl⟩:=List.getElem_of_mem a
  refine ⟨j,hj,fun e=>?_,rfl⟩
  subst e
  rw [hkey] at b
  simp at b
 ·rintro ⟨j,hj,e1,rfl⟩
  refine ⟨List.getElem_mem hj,bne_iff_ne.2 fun e2=>?_⟩
  rw [← hkey] at e2
  by_cases c:j < i
  ·have:=hp j i hj f2 c;omega
  ·have:=hp i j f2 hj (by omega);omega
theorem dropR_no {l:List (List Int)} {id:Int} (hk:hasK l id = false):dropR l id = l:=by
 unfold dropR
 refine List.filter_eq_self.2 fun r hr=>bne_iff_ne.2 fun e=>?_
 rw [hasK_iff.2 ⟨r,hr,e⟩] at hk
 cases hk
theorem putI_ins {l:List Int} {n:Int} (h:l.Pairwise fun a b=>a < b) (hk:l.contains n = false):putI l n = insG l n:=by
 have hlt:∀ x∈l.take (insN l n),x < n:=fun x hx=>by
  obtain ⟨i,hi,rfl⟩:=List.getElem_of_mem hx
  rw [List.length_take] at hi
  rw [List.getElem_take]
  have:=List.not_of_lt_findIdx (show i < insN l n by omega)
  simpa using this
 have hge:∀ x∈l.drop (insN l n),n < x:=fun x hx=>by
  have hne:x≠n:=fun e=>by
   subst e
   rw [List.contains_iff_mem.2 (List.mem_of_mem_drop hx)] at hk
   cases hk
  obtain ⟨i,hi,rfl⟩:=List.getElem_of_mem hx
  rw [List.length_drop] at hi
  rw [List.getElem_drop] at hne ⊢
  have h1:insN l n < l.length:=by omega
  have h2:=List.findIdx_getElem (p:=fun y=>decide (n≤y)) (xs:=l) (w:=h1)
  have h3:n≤l[insN l n]:=of_decide_eq_true h2
  rcases Nat.eq_zero_or_pos i with h5 | h5
  ·subst h5
   simp only [Nat.add_zero] at hne ⊢
   omega
  ·have:=List.pairwise_iff_getElem.1 h (insN l n) (insN l n + i) h1 (by omega) (by omega)
   omega
 have ha2:=h
 rw [← List.take_append_drop (insN l n) l] at ha2
 obtain ⟨p1,p2,p3⟩:=List.pairwise_append.1 ha2
 have hA:(insG l n).Pairwise fun a b=>a < b:=List.pairwise_append.2 ⟨p1,List.pairwise_cons.2 ⟨fun x hx=>hge x hx,p2⟩,fun x hx y hy=>by
  rcases List.mem_cons.1 hy with rfl | hy
  ·exact hlt x hx
  ·exact p3 x hx y hy⟩
 refine So.srt_uniq (lt:=So.ltI) ⟨fun x y h=>?_,fun x y z h1 h2=>?_⟩ ((putI_asc h).imp fun h=>decide_eq_true h) (hA.imp fun h=>decide_eq_true h) fun x=>?_
 ·simp only [So.ltI,decide_eq_true_eq] at h
  exact decide_eq_false (by omega)
 ·simp only [So.ltI,decide_eq_false_iff_not] at h1 h2 ⊢
  omega
 ·rw [putI_mem]
  have:=List.mem_append (s:=l.take (insN l n)) (t:=l.drop (insN l n)) (a:=x)
  rw [List.take_append_drop] at this
  rw [List.mem_append,List.mem_cons,this]
  constructor
  ·rintro (a | a | a)
   ·exact .inr (.inl a)
   ·exact .inl a
   ·exact .inr (.inr a)
  ·rintro (a | a | a)
   ·exact .inr (.inl a)
   ·exact .inl a
   ·exact .inr (.inr a)
theorem chg_apply {s:Src} {d:Edt} (h:SrcOk s) (hv:s.ver≠300):chgE s d = applyE s d:=by
 have hF:=fun id=>findR_has h id
 have hF2:∀ id,0≤findR s id↔hasK s.rows id = true:=fun id=>by
  have:=hF id
  cases e:hasK s.rows id with
  | true=>rw [e] at this;simp only [Bool.true_eq_false,iff_false] at this;simp;omega
  | false=>rw [e] at this;simp at this;simp;omega
 have h9:rowE s.sch d.row≠0→rowE s.sch d.row = 9:=fun k=>by
  unfold rowE at k ⊢
  rw [if_neg (by rw [h.sch];simp)] at k ⊢
  split
  ·rfl
  ·rename_i q
   rw [if_neg q] at k
   split
   ·rfl
   ·rename_i q2;rw [if_neg q2] at k;exact absurd rfl k
 unfold chgE applyE putE
 rw [if_neg (show ¬ (srcB s = false∨s.ver = 300) by rw [srcB_ok.2 h];simp [hv])]
 by_cases k12:d.kind = 1∨d.kind = 2
 ·rw [if_pos k12,if_pos k12]
  by_cases k9:rowE s.sch d.row = 0
  ·simp only [k9,ne_eq,not_true_eq_false,if_false]
   cases hg:s.gone.contains (hd d.row) with
   | true=>simp only [if_true]
   | false=>
     simp only [Bool.false_eq_true,if_false]
     have f1:=hF (hd d.row)
     have f2:=hF2 (hd d.row)
     rcases k12 with k | k
     ·have e1:(d.kind == 2) = false:=by rw [k];rfl
      have e2:d.kind≠2:=by omega
      simp only [e1,eq_false e2,eq_true k,Bool.false_eq_true,false_and,true_and,if_false]
      cases hk:hasK s.rows (hd d.row) with
      | true=>
        rw [hk] at f2
        rw [if_pos rfl,if_pos (f2.2 rfl)]
      | false=>
        rw [hk] at f2
        rw [if_neg (by simp),if_neg (show ¬ 0≤findR s (hd d.row) from fun q=>by have:=f2.1 q;cases this)]
     ·have e1:(d.kind == 2) = true:=by rw [k];rfl
      have e2:d.kind≠1:=by omega
      simp only [e1,eq_false e2,eq_true k,true_and,false_and,if_false,if_true]
      cases hk:hasK s.rows (hd d.row) with
      | true=>
        rw [hk] at f1
        rw [if_neg (by simp),if_neg (show ¬ findR s (hd d.row) < 0 from fun q=>by have:=f1.1 q;cases this)]
      | false=>
        rw [hk] at f1
        rw [if_pos rfl,if_pos (f1.2 rfl)]
  ·rw [if_pos k9,if_pos k9,h9 k9]
 ·rw [if_neg k12,if_neg k12]
  by_cases k3:d.kind = 3
  ·rw [if_pos k3,if_pos k3]
   have:=hF d.id
   cases hk:hasK s.rows d.id with
   | true=>rw [hk] at this;rw [if_neg (by simp),if_neg (fun q=>by have:=this.1 q;cases this)]
   | false=>rw [hk] at this;rw [if_pos rfl,if_pos (this.2 rfl)]
  ·rw [if_neg k3,if_neg k3]
end Go.Proofs
set_option linter.unusedSimpArgs false
set_option linter.unusedVariables false
namespace Go.Proofs
open Go Go.TL
set_option maxRecDepth 4000
set_option maxHeartbeats 8000000
def nxS (s:Src):Src:=⟨s.sch,s.rows,s.gone,s.ver + 1⟩
theorem nxS_ok {s:Src} (h:SrcOk s) (hv:s.ver≠300):SrcOk (nxS s):=⟨h.sch,h.nr,h.ng,by have:=h.ver;unfold nxS;dsimp only;omega,h.rows,h.asc,h.gone,h.gasc⟩
theorem put0 {s:Src} {r:List Int} {rep:Bool} (h:putE s r rep = 0):hasK s.rows (hd r) = rep∧rowE s.sch r = 0∧s.gone.contains (hd r) = false:=by
 unfold putE at h
 split at h
 ·cases h
 ·rename_i q1
  split at h
  ·cases h
  ·rename_i q2
   have e1:rowE s.sch r = 0:=Classical.byContradiction q1
   have e2:s.gone.contains (hd r) = false:=by simpa using q2
   split at h
   ·cases h
   ·rename_i q3
    split at h
    ·rename_i q4
     rw [q4] at q3 ⊢
     exact ⟨by simpa using q3,e1,e2⟩
    ·rename_i q4
     split at h
     ·cases h
     ·rename_i q5
      have e3:rep = false:=by simpa using q4
      rw [e3]
      exact ⟨by simpa using q5,e1,e2⟩
theorem c_source_Apply (s:Src) (d:Edt) (hs:SrcSm s) (hr:d.row.length < 4611686018427387904) (hi:idOk d.id):Spc Tryz.prog F_source_Apply [srcT s,edtT d] [] (.tup [srcT (applyS s d),vI (applyE s d)]) []:=by
 have hV:=c_source_Valid s (by have:=hs.1.2.1;omega) (by have:=hs.1.1;omega) hs.2
 refine spec_of_ir fn_source_Apply mixm (by simp) fun e _ hst=>W_start ?_
 unfold ir_source_Apply
 refine sW ?_
 refine C1.im hV (by rfl) (by rfl) ?_
 simp only [tZ,↓un_u,simprocAttr,tD,beq_iff_eq,beq_eq_false_iff_ne,Bool.not_eq_true',Bool.not_eq_false']
 refine ⟨fun h=>?_,fun h=>?_⟩
 ·have hE:applyE s d = 13:=by rw [applyE,if_pos h]
  have hA:applyS s d = src0:=by rw [applyS,if_pos (by rw [hE];decide)]
  rw [hE,hA]
  exact .oA [] []
 have hok:=srcB_ok.1 h.1
 have hv:s.ver≠300:=h.2
 have hok2:=nxS_ok hok hv
 have hEq:=chg_apply (d:=d) hok hv
 have hver:=hok.ver
 have hnr:=hok.nr
 have hng:=hok.ng
 have hw:IntKind.i64.wrap (s.ver + 1) = s.ver + 1:=IntWalk.i64_in _ (by omega)
 have hrw:=c_source_rowsOf s.rows (by omega) (fun r hr=>by have:=(rowE_ok (hok.rows r hr)).2.1;have:=(schE_ok hok.sch).nc;omega)
 have hcl:=c_slices_CloneO_int s.gone (by omega)
 refine C1.im (c_source_cloneSchema s.sch (schE_ok hok.sch)) (by rfl) (by rfl) ?_
 refine sW ?_
 refine C1.fresh 16404 hrw (by rfl) (by apply imXs_map;intro _;exact ⟨rfl,rfl⟩) (by rfl) ?_
 refine sW ?_
 refine C1.fresh 16416 hcl (by rfl) (by apply imXs_map;intro _;exact ⟨rfl,rfl⟩) (by rfl) ?_
 simp only [tZ,↓un_u,simprocAttr,hw]
 refine ⟨by kernel_rfl,?_⟩
 have hC:=c_source_change (nxS s) hok2 d hr hi
 have hE2:chgE (nxS s) d = applyE s d:=hEq
 rw [hE2] at hC
 by_cases hE:applyE s d = 0
 ·have hS:applyS s d = ⟨s.sch,applyR s d,if d.kind = 4 then putI s.gone d.id else s.gone,s.ver + 1⟩:=by rw [applyS,if_neg (by rw [hE];simp)]
  have hcE:=hEq.trans hE
  unfold chgE at hcE
  rw [hE] at hC ⊢
  by_cases k1:d.kind = 1
  ·have hC:=hC (ownAdd (nxS s) d.row) (fun e=>absurd rfl e) (fun _ _=>rfl) (fun _ k=>by omega) (fun _ k=>by omega) (fun _ k=>by omega)
   rw [if_pos (.inl k1)] at hcE
   have hk:=(put0 hcE).1
   rw [k1] at hk
   rw [hS,applyR,if_pos (.inl k1),if_neg (by omega),putR_ins hok.asc hk]
   have hfl:=fndN_le s.rows (hd d.row)
   refine C1.of [(0,some 16436),(1,some 16404),(2,some 16416)] [(16436,some 0),(16416,some 2),(3,some 3)] [] ([(16436,ownO s.sch 3 (s.rows.length + 1) 16416 s.gone.length (s.ver + 1)),(16404,.dead),(16416,.arr 1 (s.gone.map vI) false),(3,.arr 1 ((insR s.rows d.row).map vIs) false)]) hC ?_ (by rfl) ?_ (by rfl) (by rfl) ?_ (by rfl) (by rfl) (ltT_im (by rfl)) (.inl (by rfl)) ?_
   ·all_goals (try exact clA)
   ·all_goals (try exact clA)
   ·simp only [wrOk,wrO,TL.get,ltO1]
    all_goals (try exact clA)
   refine sW ?_
   have hil:(insR s.rows d.row).length = s.rows.length + 1:=by rw [List.length_append,List.length_cons,List.length_take,List.length_drop];omega
   refine ⟨by rw [List.length_take,List.length_drop];omega,?_⟩
   generalize insR s.rows d.row = R at hil ⊢
   exact .oA [] [3,16416]
  by_cases k2:d.kind = 2
  ·have hC:=hC (ownRep (nxS s) d.row) (fun e=>absurd rfl e) (fun _ k=>by omega) (fun _ k=>rfl) (fun _ k=>by omega) (fun _ k=>by omega)
   rw [if_pos (.inr k2)] at hcE
   have hk:=(put0 hcE).1
   rw [k2] at hk
   rw [hS,applyR,if_pos (.inr k2),if_neg (by omega),putR_set hok.asc hk]
   refine C1.of [(0,some 16436),(1,some 16404),(2,some 16416)] [(16436,some 0),(16404,some 1),(16416,some 2)] [] ([(16436,ownO s.sch 16404 s.rows.length 16416 s.gone.length (s.ver + 1)),(16404,.arr 1 ((s.rows.set (fndN s.rows (hd d.row)) d.row).map vIs) false),(16416,.arr 1 (s.gone.map vI) false)]) hC ?_ (by rfl) ?_ (by rfl) (by rfl) ?_ (by rfl) (by rfl) (ltT_im (by rfl)) (.inl (by rfl)) ?_
   ·all_goals (try exact clA)
   ·all_goals (try exact clA)
   ·simp only [wrOk,wrO,TL.get,ltO1]
    all_goals (try exact clA)
   refine sW ?_
   have hil:(s.rows.set (fndN s.rows (hd d.row)) d.row).length = s.rows.length:=List.length_set
   generalize s.rows.set (fndN s.rows (hd d.row)) d.row = R at hil ⊢
   refine ⟨by omega,?_⟩
   exact .oA [] [16404,16416]
  rw [if_neg (by omega)] at hcE
  by_cases k3:d.kind = 3
  ·have hC:=hC (ownDel (nxS s) d.id) (fun e=>absurd rfl e) (fun _ k=>by omega) (fun _ k=>by omega) (fun _ k=>rfl) (fun _ k=>by omega)
   rw [if_pos k3] at hcE
   have hk:hasK s.rows d.id = true:=by
    cases e:hasK s.rows d.id with
    | true=>rfl
    | false=>rw [if_pos e] at hcE;cases hcE
   obtain ⟨f2,_⟩:=fndN_at hok.asc hk
   rw [hS,applyR,if_neg (by omega),if_neg (by omega),dropR_del hok.asc hk]
   refine C1.of [(0,some 16436),(1,some 16404),(2,some 16416)] [(16436,some 0),(16416,some 2),(3,some 3)] [] ([(16436,ownO s.sch 3 (s.rows.length - 1) 16416 s.gone.length (s.ver + 1)),(16404,.dead),(16416,.arr 1 (s.gone.map vI) false),(3,.arr 1 ((delR s.rows d.id).map vIs) false)]) hC ?_ (by rfl) ?_ (by rfl) (by rfl) ?_ (by rfl) (by rfl) (ltT_im (by rfl)) (.inl (by rfl)) ?_
   ·all_goals (try exact clA)
   ·all_goals (try exact clA)
   ·simp only [wrOk,wrO,TL.get,ltO1]
    all_goals (try exact clA)
   refine sW ?_
   have hil:(delR s.rows d.id).length = s.rows.length - 1:=List.length_eraseIdx_of_lt f2
   generalize delR s.rows d.id = R at hil ⊢
   refine ⟨by omega,?_⟩
   exact .oA [] [3,16416]
  rw [if_neg k3] at hcE
  by_cases k4:d.kind = 4
  ·rw [if_pos k4] at hcE
   have hg:s.gone.contains d.id = false:=by
    cases e:s.gone.contains d.id with
    | false=>rfl
    | true=>
      rw [if_pos e] at hcE
      split at hcE <;> cases hcE
   have hil2:insN s.gone d.id≤s.gone.length:=List.findIdx_le_length
   rw [hS,applyR,if_neg (by omega),if_pos k4,putI_ins hok.gasc hg]
   have hgl:(insG s.gone d.id).length = s.gone.length + 1:=by rw [List.length_append,List.length_cons,List.length_take,List.length_drop];omega
   cases hk:hasK s.rows d.id with
   | true=>
     have hC:=hC (ownWdD (nxS s) d.id) (fun e=>absurd rfl e) (fun _ k=>by omega) (fun _ k=>by omega) (fun _ k=>by omega) (fun _ k=>(if_pos hk).symm)
     obtain ⟨f2,_⟩:=fndN_at hok.asc hk
     rw [dropR_del hok.asc hk]
     refine C1.of [(0,some 16436),(1,some 16404),(2,some 16416)] [(16436,some 0),(3,some 3),(4,some 4)] [] ([(16436,ownO s.sch 3 (s.rows.length - 1) 4 (s.gone.length + 1) (s.ver + 1)),(16404,.dead),(16416,.dead),(3,.arr 1 ((delR s.rows d.id).map vIs) false),(4,.arr 1 ((insG s.gone d.id).map vI) false)]) hC ?_ (by rfl) ?_ (by rfl) (by rfl) ?_ (by rfl) (by rfl) (ltT_im (by rfl)) (.inl (by rfl)) ?_
     ·all_goals (try exact clA)
     ·all_goals (try exact clA)
     ·simp only [wrOk,wrO,TL.get,ltO1]
      all_goals (try exact clA)
     refine sW ?_
     have hil:(delR s.rows d.id).length = s.rows.length - 1:=List.length_eraseIdx_of_lt f2
     generalize delR s.rows d.id = R at hil ⊢
     refine ⟨⟨by omega,by rw [List.length_take,List.length_drop];omega⟩,?_⟩
     generalize insG s.gone d.id = G at hgl ⊢
     exact .oA [] [3,4]
   | false=>
     have hC:=hC (ownWd (nxS s) d.id) (fun e=>absurd rfl e) (fun _ k=>by omega) (fun _ k=>by omega) (fun _ k=>by omega) (fun _ k=>(if_neg (by rw [show hasK (nxS s).rows d.id = false from hk];simp)).symm)
     rw [dropR_no hk]
     refine C1.of [(0,some 16436),(1,some 16404),(2,some 16416)] [(16436,some 0),(16404,some 1),(4,some 4)] [] ([(16436,ownO s.sch 16404 s.rows.length 4 (s.gone.length + 1) (s.ver + 1)),(16404,.arr 1 (s.rows.map vIs) false),(16416,.dead),(4,.arr 1 ((insG s.gone d.id).map vI) false)]) hC ?_ (by rfl) ?_ (by rfl) (by rfl) ?_ (by rfl) (by rfl) (ltT_im (by rfl)) (.inl (by rfl)) ?_
     ·all_goals (try exact clA)
     ·all_goals (try exact clA)
     ·simp only [wrOk,wrO,TL.get,ltO1]
      all_goals (try exact clA)
     refine sW ?_
     refine ⟨by rw [List.length_take,List.length_drop];omega,?_⟩
     generalize insG s.gone d.id = G at hgl ⊢
     exact .oA [] [16404,4]
  ·rw [if_neg k4] at hcE
   cases hcE
 ·have hA:applyS s d = src0:=by rw [applyS,if_pos hE]
  rw [hA]
  have hC:=hC (ownS3 (nxS s)) (fun _=>rfl) (fun e=>absurd e hE) (fun e=>absurd e hE) (fun e=>absurd e hE) (fun e=>absurd e hE)
  refine C1.of [(0,some 16436),(1,some 16404),(2,some 16416)] [(16436,some 0),(16404,some 1),(16416,some 2)] [] ([(16436,ownO s.sch 16404 s.rows.length 16416 s.gone.length (s.ver + 1)),(16404,.arr 1 (s.rows.map vIs) false),(16416,.arr 1 (s.gone.map vI) false)]) hC ?_ (by rfl) ?_ (by rfl) (by rfl) ?_ (by rfl) (by rfl) (ltT_im (by rfl)) (.inl (by rfl)) ?_
  ·all_goals (try exact clA)
  ·all_goals (try exact clA)
  ·simp only [wrOk,wrO,TL.get,ltO1]
   all_goals (try exact clA)
  simp only [tZ,↓un_u,simprocAttr,bne_iff_ne,bne_eq_false_iff_eq]
  refine ⟨fun _=>?_,fun e=>absurd e hE⟩
  exact .oA [] []
end Go.Proofs
set_option linter.unusedSimpArgs false
set_option linter.unusedVariables false
namespace Go.Proofs
open Go Go.TL
set_option maxRecDepth 4000
set_option maxHeartbeats 8000000
theorem SrcOk.smy {s:Src} (h:SrcOk s):SrcSm s:=⟨(schE_ok h.sch).sm,fun r hr=>by
 have h1:=(rowE_ok (h.rows r hr)).2.1
 have h2:=(schE_ok h.sch).nc
 omega⟩
theorem c_source_At (s:Src) (l:List Edt) (n:Int) (hk:SrcOk s) (hd1:∀ d∈l,d.row.length < 4611686018427387904∧idOk d.id) (hl:l.length < 4611686018427387904):Spc Tryz.prog F_source_At [srcT s,.sl 3 (l.map edtT),vI n] [] (.tup [srcT (atI s l n).1,vI (atI s l n).2]) []:=by
 have hs:=hk.smy
 have hnr:=hk.nr
 have hng:=hk.ng
 have hrw:=c_source_rowsOf s.rows (by omega) (fun r hr=>by have:=(rowE_ok (hk.rows r hr)).2.1;have:=(schE_ok hk.sch).nc;omega)
 have hcl:=c_slices_CloneO_int s.gone (by omega)
 refine spec_of_ir fn_source_At mixm (by simp) fun e _ hst=>W_start ?_
 unfold ir_source_At
 refine sD ?_
 refine ⟨fun h=>?_,fun h=>?_⟩
 ·rw [atI,if_pos h]
  exact .oA [] []
 rw [atI,if_neg (by omega)]
 obtain ⟨N,rfl⟩:=Int.eq_ofNat_of_zero_le (show 0≤n by omega)
 rw [Int.toNat_natCast]
 refine C1.im (c_source_cloneSchema s.sch (schE_ok hk.sch)) (by rfl) (by rfl) ?_
 refine sW ?_
 refine C1.fresh 16404 hrw (by rfl) (by apply imXs_map;intro _;exact ⟨rfl,rfl⟩) (by rfl) ?_
 refine sW ?_
 refine C1.fresh 16416 hcl (by rfl) (by apply imXs_map;intro _;exact ⟨rfl,rfl⟩) (by rfl) ?_
 refine sW ?_
 refine ⟨by kernel_rfl,by omega,?_⟩
 rw [cut_map,cut_to]
 have hlN:((l.take N).map edtT).length = N:=by rw [List.length_map,List.length_take];omega
 rw [hlN]
 refine W_loopF mixm (α:=Nat) [38] (fun i=>i≤N∧(atS s (l.take i)).2 = 0∧SrcSm (atS s (l.take i)).1) (fun i=>[(38,vI i)]) (fun i=>[(4100,.arr 5 [srcT src0] false),(16432,.arr 5 [srcT (atS s (l.take i)).1] false)]) (fun i=>N - i) 0 ⟨by omega,rfl,hs⟩ ?_ fun i hi=>?_
 ·show Le _ _ ⟨_,[(4100,.arr 5 [srcT src0] false),(16432,.arr 5 [srcT s] false)]⟩
  refine .of [(4100,some 4100),(16432,some 16432)] [16404,16416] rfl (by first | rfl | (rw [hst];rfl)) ?_ ?_
  all_goals (try simp only [tL,simprocAttr,List.map_append,List.map_cons,List.map_nil,List.cons_append,List.nil_append])
  all_goals (try (repeat' (first | exact ltXs_nil | (apply ltXs_map;intro _;exact ⟨rfl,rfl⟩) | (apply imXs_map;intro _;exact ⟨rfl,rfl⟩) | with_reducible apply imXs_append | with_reducible refine imXs_cons ⟨rfl,rfl⟩ ?_ | exact imXs_nil | with_reducible apply ltXs_append | with_reducible refine ltXs_cons ⟨rfl,rfl,?_⟩ ?_ | with_reducible apply And.intro | exact ltCs_im rfl | exact ltCs_im (by assumption) | (refine ⟨⟨?_,rfl,?_,rfl,?_⟩,trivial⟩ <;> first | (simp;done) | (apply imXs_map;intro _;exact ⟨rfl,rfl⟩)) | trivial | rfl | (rw [i64_succ (by omega)]) | omega)))
  show ltCs _ _ _ [.sl 2 (s.sch.lists.map cdlT),.sl 7 (s.sch.cols.map colT),.asl 16404 s.rows.length,.asl 16416 s.gone.length,vI s.ver] [.sl 2 (s.sch.lists.map cdlT),.sl 7 (s.sch.cols.map colT),vRw s.rows,vIs s.gone,vI s.ver]
  all_goals (try exact clA)
 obtain ⟨i1,i2,i3⟩:=hi
 refine sD ?_
 refine ⟨fun h2=>?_,fun h2=>?_⟩
 ·have hi2:i < l.length:=by omega
  have hi3:i < (l.take N).length:=by rw [List.length_take];omega
  have hg:(l.take N)[i] = l[i]:=List.getElem_take
  have hwi:=i64_succ (i:=i) (by omega)
  have hsn:=atS_snoc (l.take i) s l[i] i2
  rw [← take_snoc hi2] at hsn
  obtain ⟨hdr,hdi⟩:=hd1 _ (List.getElem_mem hi2)
  generalize (atS s (l.take i)).1 = x at hsn i3 ⊢
  simp only [tZ,↓un_u,simprocAttr,Int.toNat_natCast,getD_mapT hi3,hg]
  refine ⟨by omega,?_⟩
  refine C1.im (c_source_Apply x l[i] i3 hdr hdi) (by rfl) (by rfl) ?_
  simp only [tZ,↓un_u,simprocAttr,bne_iff_ne,bne_eq_false_iff_eq,hwi]
  refine ⟨fun h3=>?_,fun h3=>?_⟩
  ·rw [if_pos h3] at hsn
   have e1:l.take N = l.take (i + 1) ++ (l.take N).drop (i + 1):=by
    have:=(List.take_append_drop (i + 1) (l.take N)).symm
    rwa [List.take_take,Nat.min_eq_left (by omega)] at this
   have e2:atS s (l.take N) = (src0,applyE x l[i]):=by
    rw [e1,atS_stays _ _ _ (by rw [hsn];exact h3),hsn]
   rw [e2]
   exact .oA [] []
  ·rw [if_neg (by rw [h3];simp)] at hsn
   refine ⟨i + 1,⟨by omega,by rw [hsn],by rw [hsn];exact apply_sm i3 hdr h3⟩,by omega,?_⟩
   rw [hsn]
   exact .oA [(4100,some 4100),(16432,some 16432)] []
 ·have hil:i = N:=by omega
  subst hil
  rw [i2]
  exact .oA [] []
theorem c_source_Find_1 (r:List Int) (k:Int):Spc Tryz.prog F_source_Find_1 [vIs r,.ip [vI k]] [] (vB (atR k r)) []:=by
 rcases Nat.eq_zero_or_pos r.length with h0 | h0
 ·have hr:r = []:=List.length_eq_zero_iff.1 h0
  subst hr
  rw [show atR k [] = false from rfl]
  refine spec_of_ir fn_source_Find_1 mixm (by simp) fun e _ hst=>W_start ?_
  unfold ir_source_Find_1
  simp only [tZ,↓un_u,simprocAttr,labE_u,pickX_u,G2_none,not_false_eq_true,true_and]
  refine ⟨by kernel_rfl,?_⟩
  exact .oA [] []
 ·have hg:=getD_hd h0
  have e0:decide ((r.length:Int) > 0) = true:=decide_eq_true (by omega)
  have:atR k r = (hd r == k):=by rw [atR,decide_eq_true h0,Bool.true_and]
  rw [this]
  refine spec_of_ir fn_source_Find_1 mixm (by simp) fun e _ hst=>W_start ?_
  unfold ir_source_Find_1
  simp only [tZ,↓un_u,simprocAttr,hg,e0]
  refine ⟨by omega,by kernel_rfl,?_⟩
  exact .oA [] []
theorem c_source_Find (s:Src) (k:Int) (hl:s.rows.length < 4611686018427387904):Spc Tryz.prog F_source_Find [srcT s,vI k] [] (vI (findR s k)) []:=by
 have hI:=c_slices_IndexFunc_Lint (atR k) F_source_Find_1 [.ip [vI k]] rfl s.rows (fun r _=>c_source_Find_1 r k) hl
 rw [show TL.idxI (atR k) s.rows = findR s k from rfl] at hI
 refine spec_of_ir fn_source_Find mixm (by simp) fun e _ hst=>W_start ?_
 unfold ir_source_Find
 refine sW ?_
 refine C1.lend [4100] hI ?_ (by rfl) (by rfl) ?_
 ·all_goals (try simp only [tL,simprocAttr,List.map_append,List.map_cons,List.map_nil,List.cons_append,List.nil_append])
  all_goals (try (repeat' (first | exact ltXs_nil | (apply ltXs_map;intro _;exact ⟨rfl,rfl⟩) | (apply imXs_map;intro _;exact ⟨rfl,rfl⟩) | with_reducible apply imXs_append | with_reducible refine imXs_cons ⟨rfl,rfl⟩ ?_ | exact imXs_nil | with_reducible apply ltXs_append | with_reducible refine ltXs_cons ⟨rfl,rfl,?_⟩ ?_ | with_reducible apply And.intro | exact ltCs_im rfl | exact ltCs_im (by assumption) | (refine ⟨⟨?_,rfl,?_,rfl,?_⟩,trivial⟩ <;> first | (simp;done) | (apply imXs_map;intro _;exact ⟨rfl,rfl⟩)) | trivial | rfl | (rw [i64_succ (by omega)]) | omega)))
  simp only [ltP]
  exact ⟨rfl,by decide,rfl,imXs_cons ⟨rfl,rfl⟩ imXs_nil⟩
 refine sW ?_
 exact .oA [] []
end Go.Proofs
set_option linter.unusedSimpArgs false
set_option linter.unusedVariables false
namespace Go.Proofs
open Go Go.TL
set_option maxRecDepth 4000
set_option maxHeartbeats 8000000
open So
theorem gdT_L {xs:List (List Int)} {i:Nat} (h:i < xs.length):(xs.map vIs).getD i .junk = vIs (gd xs i):=by rw [gd_get h];exact getD_mapT h
theorem replT_L (x y:List Int):repl (vIs x) 0 (vIs y) = vIs y:=rfl
theorem cellT_L (x:List Int):(vIs x).cells.getD 0 .junk = vIs x:=rfl
theorem setT_L (xs:List (List Int)) (i:Nat) (v:List Int):(xs.map vIs).set i (vIs v) = (xs.set i v).map vIs:=List.map_set.symm
theorem swpT_L (xs:List (List Int)) (i j:Nat):((xs.set i (gd xs j)).set j (gd xs i)) = swp xs i j:=rfl
theorem gd_mem {xs:List (List Int)} {i:Nat} (h:i < xs.length):gd xs i∈xs:=by rw [gd_get h];exact List.getElem_mem h
section
variable (cv:List Int→List Int→Int) (P:List Int→Prop) (f:FuncId) (hf:∀ x y,P x→P y→Spc Tryz.prog f [vIs x,vIs y] [] (vI (cv x y)) [])
abbrev ltV (x y:List Int):Bool:=decide (cv x y < 0)
include hf in
theorem c_slices_insertionSortCmpFunc_Lint (xs:List (List Int)) (hP:∀ x∈xs,P x) (a b:Nat) (hab:a≤b) (hb:b≤xs.length) (hl:xs.length < 4611686018427387904) :
 Spc Tryz.prog F_slices_insertionSortCmpFunc_Lint [.asl 0 xs.length,vI a,vI b,.clo f []] [(0,.arr 1 (xs.map vIs) false)] (.tup []) [(0,.arr 1 ((insS (ltV cv) xs a b).map vIs) false)]:=by
 have hw:=i64_succ (i:=a) (by omega)
 refine spec_of_ir fn_slices_insertionSortCmpFunc_Lint mixm (by simp) fun e _ hst=>W_start ?_
 unfold ir_slices_insertionSortCmpFunc_Lint
 simp only [tZ,↓un_u,simprocAttr,hw]
 refine W_loopF mixm (α:=List (List Int)×Nat) [8] (fun q=>q.1.length = xs.length∧a + 1≤q.2∧(q.2≤b∨q.2 = a + 1)∧insF (ltV cv) a (b - q.2) q.2 q.1 = insS (ltV cv) xs a b∧∀ x∈q.1,P x) (fun q=>[(8,vI q.2)]) (fun q=>[(0,.arr 1 (q.1.map vIs) false)]) (fun q=>b - q.2) (xs,a + 1) ⟨rfl,Nat.le_refl _,.inr rfl,rfl,hP⟩ ?_ fun q hq=>?_
 ·exact .oA [(0,some 0)] []
 obtain ⟨ys,i⟩:=q
 obtain ⟨h1,h2,h3,h4,hPy⟩:=hq
 dsimp only at h1 h2 h3 h4 hPy
 simp only [tZ,↓un_u,simprocAttr,decide_eq_true_eq,decide_eq_false_iff_not]
 refine ⟨fun h5=>?_,fun h5=>?_⟩
 ·have hi2:i < b:=by omega
  rw [show b - i = (b - (i + 1)) + 1 by omega,insF] at h4
  refine W_loopF mixm (α:=List (List Int)×Nat) [9] (fun q=>q.1.length = xs.length∧a≤q.2∧q.2≤i∧insJ (ltV cv) a q.2 q.1 = insJ (ltV cv) a i ys∧∀ x∈q.1,P x) (fun q=>[(9,vI q.2)]) (fun q=>[(0,.arr 1 (q.1.map vIs) false)]) (fun q=>q.2) (ys,i) ⟨h1,by omega,Nat.le_refl _,rfl,hPy⟩ ?_ fun q hq=>?_
  ·exact .oA [(0,some 0)] []
  obtain ⟨zs,j⟩:=q
  obtain ⟨g1,g2,g3,g4,hPz⟩:=hq
  dsimp only at g1 g2 g3 g4 hPz
  by_cases hj:a < j
  ·obtain ⟨j,rfl⟩:∃ k,j = k + 1:=⟨j - 1,by omega⟩
   have hwj:IntKind.i64.wrap (((j + 1:Nat):Int) - 1) = (j:Int):=by rw [IntWalk.i64_in _ (by omega)];omega
   have hd:decide (((j + 1:Nat):Int) > a) = true:=by simp;omega
   have hc:=hf (gd zs (j + 1)) (gd zs j) (hPz _ (gd_mem (by omega))) (hPz _ (gd_mem (by omega)))
   simp only [tZ,↓un_u,simprocAttr,hwj,hd,Int.toNat_natCast,gdT_L (show j < zs.length by omega),gdT_L (show j + 1 < zs.length by omega)]
   refine ⟨⟨g1,by omega,by omega⟩,⟨g1,by omega⟩,⟨g1,by omega,by omega⟩,⟨g1,by omega⟩,?_⟩
   refine C2.one (by trivial) (C1.im hc (by rfl) (by rfl) ?_)
   have hsl:(zs.set (j + 1) (gd zs j)).length = zs.length:=List.length_set
   simp only [tZ,↓un_u,simprocAttr,hwj,Int.toNat_natCast,gdT_L (show j < zs.length by omega),gdT_L (show j + 1 < zs.length by omega),replT_L,cellT_L,setT_L,gdT_L (show j < (zs.set (j + 1) (gd zs j)).length by omega),swpT_L]
   have hin:insJ (ltV cv) a (j + 1) zs = if a < j + 1∧ltV cv (gd zs (j + 1)) (gd zs j) = true then insJ (ltV cv) a j (swp zs (j + 1) j) else zs:=rfl
   refine ⟨by kernel_rfl,fun h6=>?_,fun h6=>?_⟩
   ·refine ⟨⟨g1,by omega,by omega⟩,⟨g1,by omega⟩,⟨g1,by omega,by omega⟩,⟨g1,by omega⟩,⟨g1,by omega,by omega⟩,⟨g1,by omega⟩,⟨by omega,by omega,by omega⟩,⟨by omega,by omega⟩,by kernel_rfl,(swp zs (j + 1) j,j),⟨by dsimp only;rw [swp_len];exact g1,by dsimp only;omega,by dsimp only;omega,?_,fun x hx=>hPz x ((swp_perm (by omega) (by omega)).mem_iff.1 hx)⟩,by dsimp only;omega,?_⟩
    ·rw [← g4,hin,if_pos ⟨hj,h6⟩]
    ·exact .oA [(0,some 0)] []
   ·rw [hin,if_neg (fun e=>by have e2:=e.2;unfold ltV at e2;rw [h6] at e2;cases e2)] at g4
    have hwi:=i64_succ (i:=i) (by omega)
    refine ⟨(zs,i + 1),⟨g1,by dsimp only;omega,by dsimp only;omega,?_,hPz⟩,by dsimp only;omega,?_⟩
    ·dsimp only;rw [g4];exact h4
    ·rw [hwi]
     exact .oA [(0,some 0)] []
  ·have hd:decide ((j:Int) > a) = false:=by simp;omega
   have hwi:=i64_succ (i:=i) (by omega)
   have hin:insJ (ltV cv) a j zs = zs:=by
    cases j with
    | zero=>rfl
    | succ j=>unfold insJ;rw [if_neg (fun e=>hj e.1)]
   rw [hin] at g4
   simp only [tZ,↓un_u,simprocAttr,hd,hwi]
   refine C2.no (fun h=>h) ?_
   simp only [tZ,↓un_u,simprocAttr,hwi]
   refine ⟨by kernel_rfl,(zs,i + 1),⟨g1,by dsimp only;omega,by dsimp only;omega,?_,hPz⟩,by dsimp only;omega,?_⟩
   ·dsimp only;rw [g4];exact h4
   ·exact .oA [(0,some 0)] []
 ·rw [show b - i = 0 by omega,insF] at h4
  rw [← h4]
  exact .oA [(0,some 0)] []
theorem updT_L {st:Sto} {B:List Nat} (n:Nat) (ts:List T) (h:imAL ts = true):ltAs st [(0,some 0)] B (.asl 0 n :: ts) (.asl 0 n :: ts):=⟨by simp [ltA,ltC,ltC0,TL.get],ltAs_im h⟩
include hf in
theorem c_slices_pdqSF_Lint (xs:List (List Int)) (hP:∀ x∈xs,P x) (lim:Nat) (hl:xs.length≤12) :
 Spc Tryz.prog F_slices_pdqsortCmpFunc_Lint [.asl 0 xs.length,vI 0,vI xs.length,vI lim,.clo f []] [(0,.arr 1 (xs.map vIs) false)] (.tup []) [(0,.arr 1 ((insS (ltV cv) xs 0 xs.length).map vIs) false)]:=by
 have hw1:IntKind.i64.wrap ((xs.length:Int) - 0) = (xs.length:Int):=by rw [IntWalk.i64_in _ (by omega)];omega
 have hin:=c_slices_insertionSortCmpFunc_Lint cv P f hf xs hP 0 xs.length (by omega) (by omega) (by omega)
 refine spec_of_cut [11,16,18] fn_slices_pdqsortCmpFunc_Lint mixm (by simp) fun e _ hst=>W_start ?_
 unfold ir_slices_pdqsortCmpFunc_Lint
 simp only [cutAt,List.contains_cons,List.contains_nil,Nat.reduceBEq,Bool.or_false,Bool.or_true,Bool.true_or,Bool.false_or,cond_true,cond_false]
 refine sW ?_
 refine W_loopF mixm (α:=Unit) [1,2,3,10,11] (fun _=>True) (fun _=>[(1,vI 0),(2,vI xs.length),(3,vI lim),(10,vB true),(11,vB true)]) (fun _=>[(0,.arr 1 (xs.map vIs) false)]) (fun _=>0) () trivial ?_ fun q hq=>?_
 ·exact .oA [(0,some 0)] []
 simp only [tZ,↓un_u,simprocAttr,decide_eq_true_eq,decide_eq_false_iff_not,hw1]
 refine ⟨fun h8=>?_,fun h8=>absurd (show (xs.length:Int)≤12 by omega) h8⟩
 refine C1.upd 0 1 _ _ hin (by rfl) (by apply imXs_map;intro _;exact ⟨rfl,rfl⟩) (by apply imXs_map;intro _;exact ⟨rfl,rfl⟩) (updT_L _ _ (by rfl)) (by rfl) ?_
 refine sW ?_
 exact .oA [(0,some 0)] []
include hf in
theorem c_slices_SortFunc_Lint (xs:List (List Int)) (hP:∀ x∈xs,P x) (hl:xs.length≤12):∃ ys,(ys.Perm xs∧(SWOrd (ltV cv)→Srt (ltV cv) ys 0 xs.length))∧
 Spc Tryz.prog F_slices_SortFunc_Lint [.asl 0 xs.length,.clo f []] [(0,.arr 1 (xs.map vIs) false)] (.tup []) [(0,.arr 1 (ys.map vIs) false)]:=by
 obtain ⟨lim,hlim,hs⟩:=c_math_bits_Len xs.length (by omega)
 refine ⟨insS (ltV cv) xs 0 xs.length,⟨(insS_sw (ltV cv) xs (Nat.zero_le _) (Nat.le_refl _)).perm,fun ho=>insS_srt ho xs (Nat.zero_le _) (Nat.le_refl _)⟩,?_⟩
 have hu:IntKind.u64.wrap (xs.length:Int) = (xs.length:Int):=by rw [IntKind.wrap_u64];omega
 refine spec_of_ir fn_slices_SortFunc_Lint mixm (by simp) fun e _ hst=>W_start ?_
 unfold ir_slices_SortFunc_Lint
 simp only [tZ,↓un_u,simprocAttr,hu]
 refine C1.im hs (by rfl) (by rfl) ?_
 refine sW ?_
 refine C1.upd 0 1 _ _ (c_slices_pdqSF_Lint cv P f hf xs hP lim hl) (by rfl) (by apply imXs_map;intro _;exact ⟨rfl,rfl⟩) (by apply imXs_map;intro _;exact ⟨rfl,rfl⟩) (updT_L _ _ (by rfl)) (by rfl) ?_
 refine sW ?_
 exact .oA [(0,some 0)] []
end
end Go.Proofs
set_option linter.unusedSimpArgs false
set_option linter.unusedVariables false
namespace Go.Proofs
open Go Go.TL
set_option maxRecDepth 4000
set_option maxHeartbeats 8000000
open So
def dupB (l:List (List Int)):Bool:=!decide ((l.map hd).Nodup)
def newL (l:List (List Int)):List (List Int):=l.foldl putR []
def newE (s:Sch) (l:List (List Int)):Int:=
 if schE s≠0 then schE s else if l.length > 200 then 1 else if (l.any fun r=>rowE s r != 0) = true then 9 else if dupB l = true then 10 else 0
def newS (s:Sch) (l:List (List Int)):Src:=if newE s l≠0 then src0 else ⟨s,newL l,[],0⟩
theorem newL_ok:∀ (l a:List (List Int)),AscR a→((a ++ l).map hd).Nodup→AscR (l.foldl putR a)∧∀ x,x∈l.foldl putR a↔x∈a∨x∈l
 | [],a,h,_=>⟨h,fun x=>by simp⟩
 | r :: l,a,h,hn=>by
   have hn1:∀ x∈a,hd x≠hd r:=fun x hx e=>by
    rw [List.map_append,List.map_cons,List.nodup_append] at hn
    exact hn.2.2 (hd x) (List.mem_map.2 ⟨x,hx,rfl⟩) (hd r) (by simp) e
   have hm:∀ x,x∈putR a r↔x = r∨x∈a:=fun x=>by
    rw [putR_mem h]
    constructor
    ·rintro (k | ⟨k,_⟩)
     ·exact .inl k
     ·exact .inr k
    ·rintro (k | k)
     ·exact .inl k
     ·exact .inr ⟨k,hn1 x k⟩
   have hp:(putR a r).Perm (r :: a):=by
    rw [putR_eq h]
    have e1:(a.filter fun x=>decide (hd r < hd x)) = a.filter fun x=>!decide (hd x < hd r):=List.filter_congr fun x hx=>by
     have:=hn1 x hx
     rw [Bool.eq_iff_iff,decide_eq_true_eq,Bool.not_eq_true',decide_eq_false_iff_not]
     omega
    rw [e1]
    exact List.perm_middle.trans ((List.filter_append_perm (fun x=>decide (hd x < hd r)) a).cons r)
   have hn2:((putR a r ++ l).map hd).Nodup:=by
    have h1:(putR a r ++ l).Perm (a ++ r :: l):=(hp.append_right l).trans (by rw [List.cons_append];exact List.perm_middle.symm)
    exact (h1.map hd).nodup_iff.2 hn
   obtain ⟨k1,k2⟩:=newL_ok l (putR a r) (putR_asc h) hn2
   refine ⟨k1,fun x=>?_⟩
   rw [List.foldl_cons,k2,hm,List.mem_cons]
   constructor
   ·rintro ((k | k) | k)
    ·exact .inr (.inl k)
    ·exact .inl k
    ·exact .inr (.inr k)
   ·rintro (k | k | k)
    ·exact .inl (.inr k)
    ·exact .inl (.inl k)
    ·exact .inr k
def bidV (x y:List Int):Int:=hd x - hd y
def bidP (x:List Int):Prop:=0 < x.length∧1≤hd x∧hd x≤1048575
theorem c_source_byId (x y:List Int) (hx:bidP x) (hy:bidP y):Spc Tryz.prog F_source_byId [vIs x,vIs y] [] (vI (bidV x y)) []:=by
 have h1:=getD_hd hx.1
 have h2:=getD_hd hy.1
 have a1:=hx.1
 have a2:=hy.1
 have hw:IntKind.i64.wrap (hd x - hd y) = hd x - hd y:=IntWalk.i64_in _ (by have:=hx.2;have:=hy.2;omega)
 refine spec_of_ir fn_source_byId mixm (by simp) fun e _ hst=>W_start ?_
 unfold ir_source_byId
 simp only [tZ,↓un_u,simprocAttr,h1,h2,hw]
 refine ⟨by omega,by omega,by kernel_rfl,?_⟩
 rw [show bidV x y = hd x - hd y from rfl]
 exact .oA [] []
theorem bid_lt (x y:List Int):ltV bidV x y = decide (hd x < hd y):=by
 unfold ltV bidV
 exact decide_eq_decide.2 (by omega)
theorem bid_ord:SWOrd (ltV bidV):=by
 refine ⟨fun x y h=>?_,fun x y z h1 h2=>?_⟩
 ·rw [bid_lt] at h ⊢
  have:=of_decide_eq_true h
  exact decide_eq_false (by omega)
 ·rw [bid_lt] at h1 h2 ⊢
  have k1:=of_decide_eq_false h1
  have k2:=of_decide_eq_false h2
  exact decide_eq_false (by omega)
theorem srt_asc {ys:List (List Int)} (h:Srt (ltV bidV) ys 0 ys.length) (hn:∀ i,0 < i→i < ys.length→hd (ys.getD i default)≠hd (ys.getD (i - 1) default)):AscR ys:=by
 refine pw_of (f:=hd) fun i h0 hi=>?_
 have h1:=h (i - 1) i (by omega) (by omega) hi
 have h2:=hn i h0 hi
 have e1:gd ys i = ys.getD i default:=rfl
 have e2:gd ys (i - 1) = ys.getD (i - 1) default:=rfl
 unfold lew at h1
 rw [e1,e2,bid_lt] at h1
 have:=of_decide_eq_false h1
 omega
theorem c_source_New (s:Sch) (l:List (List Int)) (hn:s.cols.length < 4611686018427387904) (hl:s.lists.length < 4611686018427387904) (hr:∀ r∈l,r.length < 4611686018427387904) (h12:l.length≤12):Spc Tryz.prog F_source_New [schT s,vRw l] [] (.tup [srcT (newS s l),vI (newE s l)]) []:=by
 have hC:=c_schema_Check s hn hl
 have hbad:∀ v,v≠0→newE s l = v→newS s l = src0:=fun v h1 h2=>by rw [newS,h2,if_pos h1]
 refine spec_of_ir fn_source_New mixm (by simp) fun e _ hst=>W_start ?_
 unfold ir_source_New
 refine sW ?_
 refine C1.im hC (by rfl) (by rfl) ?_
 simp only [tZ,↓un_u,simprocAttr,bne_iff_ne,bne_eq_false_iff_eq,tD]
 refine ⟨fun h=>?_,fun h=>⟨fun h2=>by omega,fun _=>?_⟩⟩
 ·have hE:newE s l = schE s:=by rw [newE,if_pos h]
  rw [hbad _ h hE,hE]
  exact .oA [] []
 refine W_loopF mixm (α:=Nat) [23] (fun i=>i≤l.length∧(l.take i).any (fun r=>rowE s r != 0) = false) (fun i=>[(23,vI i)]) (fun i=>[(4096,.arr 2 [schT s] false),(4100,.arr 5 [srcT src0] false)]) (fun i=>l.length - i) 0 ⟨by omega,rfl⟩ ?_ fun i hi=>?_
 ·exact .oA [(4096,some 4096),(4100,some 4100)] []
 refine sD ?_
 refine ⟨fun h2=>?_,fun h2=>?_⟩
 ·have hi2:i < l.length:=by omega
  have hwi:=i64_succ (i:=i) (by omega)
  have hF:=c_schema_Fits s h l[i] (hr _ (List.getElem_mem hi2))
  simp only [tZ,↓un_u,simprocAttr,Int.toNat_natCast,getD_mapT hi2]
  refine ⟨by omega,?_⟩
  refine C1.im hF (by rfl) (by rfl) ?_
  simp only [tZ,↓un_u,simprocAttr,Bool.not_eq_true',Bool.not_eq_false',hwi]
  refine ⟨fun h3=>?_,fun h3=>?_⟩
  ·have h4:(rowE s l[i] != 0) = true:=by rw [bne,h3];rfl
   have hE:newE s l = 9:=by rw [newE,if_neg (by rw [h];simp),if_neg (by omega),if_pos (any_at (p:=fun r=>rowE s r != 0) hi2 h4)]
   rw [hbad 9 (by decide) hE,hE]
   exact .oA [] []
  ·refine ⟨i + 1,⟨by omega,any_snoc hi2 hi.2 (by rw [bne,h3];rfl)⟩,by omega,?_⟩
   exact .oA [(4096,some 4096),(4100,some 4100)] []
 have hil:i = l.length:=by omega
 subst hil
 have h5:=hi.2
 rw [List.take_length] at h5
 have hfit:∀ r∈l,rowE s r = 0:=fun r hr=>by
  have:=List.any_eq_false.1 h5 r hr
  simpa using this
 have hok:=schE_ok h
 have hnc:=hok.nc
 have hP:∀ r∈l,bidP r:=fun r hr=>⟨row_pos (hfit r hr),hd_in (hfit r hr)⟩
 have hEv:newE s l = if dupB l = true then 10 else 0:=by rw [newE,if_neg (by rw [h];simp),if_neg (by omega),if_neg (by rw [h5];simp)]
 have hrw:=c_source_rowsOf l (by omega) (fun r hr=>by have:=(rowE_ok (hfit r hr)).2.1;omega)
 obtain ⟨ys,⟨hp,hso⟩,hS⟩:=c_slices_SortFunc_Lint bidV bidP F_source_byId (fun x y hx hy=>c_source_byId x y hx hy) l hP h12
 have hso:=hso bid_ord
 have hpl:=hp.length_eq
 rw [← hpl] at hso
 have hPy:∀ r∈ys,bidP r:=fun r hr=>hP r (hp.mem_iff.1 hr)
 refine C1.im (c_source_cloneSchema s hok) (by rfl) (by rfl) ?_
 refine sW ?_
 refine C1.fresh 53260 hrw (by rfl) (by apply imXs_map;intro _;exact ⟨rfl,rfl⟩) (by rfl) ?_
 refine sW ?_
 refine C1.upd 53260 1 _ _ hS (by rfl) (by apply imXs_map;intro _;exact ⟨rfl,rfl⟩) (by apply imXs_map;intro _;exact ⟨rfl,rfl⟩) ⟨by simp [ltA,ltC,ltC0,TL.get],ltAs_im (by rfl)⟩ (by rfl) ?_
 refine sW ?_
 rw [← hpl]
 refine ⟨rfl,?_⟩
 have hdup:dupB l = dupB ys:=by
  unfold dupB
  have:=(hp.map hd).nodup_iff
  by_cases k:(l.map hd).Nodup
  ·rw [decide_eq_true k,decide_eq_true (this.2 k)]
  ·rw [decide_eq_false k,decide_eq_false (fun e=>k (this.1 e))]
 rw [hdup] at hEv
 have hy12:ys.length≤12:=by omega
 refine W_loopF mixm (α:=Nat) [44] (fun i=>i≤ys.length∧∀ j,0 < j→j < i→hd (ys.getD j default)≠hd (ys.getD (j - 1) default)) (fun i=>[(44,vI i)]) (fun i=>[(4100,.arr 5 [srcT src0] false),(53260,.arr 1 (ys.map vIs) false),(53268,.arr 5 [.agg [.sl 2 (s.lists.map cdlT),.sl 7 (s.cols.map colT),.asl 53260 ys.length,.v (.slice none 0 0),vI 0]] false)]) (fun i=>ys.length - i) 0 ⟨by omega,fun j h0 h1=>by omega⟩ ?_ fun i hi=>?_
 ·exact .oA [(4100,some 4100),(53260,some 53260),(53268,some 53268)] []
 obtain ⟨i1,i2⟩:=hi
 refine sD ?_
 refine ⟨fun h2=>?_,fun h2=>?_⟩
 ·have hi2:i < ys.length:=by omega
  have hwi:=i64_succ (i:=i) (by omega)
  obtain ⟨k,hk1,hk2,hk3⟩:∃ k:Nat,(IntKind.i64.wrap ((i:Int) - 1)).toNat = k∧k < ys.length∧(i = 0∧k = 0∨0 < i∧k + 1 = i∧IntKind.i64.wrap ((i:Int) - 1) = k):=by
   rcases Nat.eq_zero_or_pos i with h0 | h0
   ·subst h0
    exact ⟨0,by decide,hi2,.inl ⟨rfl,rfl⟩⟩
   ·have e:=i64_pred h0 (show i < 4611686018427387904 by omega)
    exact ⟨i - 1,by rw [e];omega,by omega,.inr ⟨h0,by omega,e⟩⟩
  have hg:ys.getD i default = ys[i]:=getD_get hi2
  have hgk:ys.getD k default = ys[k]:=getD_get hk2
  have hpi:=(hPy _ (List.getElem_mem hi2)).1
  have hpk:=(hPy _ (List.getElem_mem hk2)).1
  have hgi:=getD_hd hpi
  have hgi2:=getD_hd hpk
  simp only [tZ,↓un_u,simprocAttr,Int.toNat_natCast,hk1,getD_mapT hi2,getD_mapT hk2,hgi,hgi2,tD,gt_iff_lt,beq_iff_eq,beq_eq_false_iff_ne]
  refine ⟨fun _=>by omega,fun _=>by omega,fun _=>by omega,fun _=>by omega,fun _=>by omega,fun _=>by omega,by kernel_rfl,fun h3=>?_,fun h3=>?_⟩
  ·have hD:dupB ys = true:=by
    unfold dupB
    rw [Bool.not_eq_true',decide_eq_false_iff_not]
    intro hn
    have:=List.pairwise_iff_getElem.1 hn k i (by rw [List.length_map];omega) (by rw [List.length_map];omega) (by omega)
    rw [List.getElem_map,List.getElem_map] at this
    exact this h3.2.symm
   rw [if_pos hD] at hEv
   rw [hbad 10 (by decide) hEv,hEv]
   exact .oA [] []
  ·simp only [tZ,↓un_u,simprocAttr,hwi]
   refine ⟨i + 1,⟨by omega,fun j h0 hj=>?_⟩,by omega,?_⟩
   ·by_cases e:j = i
    ·subst e
     rw [hg,show j - 1 = k by omega,hgk]
     exact fun e=>by
      rcases h3 with h3 | h3
      ·omega
      ·exact h3 e
    ·exact i2 j h0 (by omega)
   ·exact .oA [(4100,some 4100),(53260,some 53260),(53268,some 53268)] []
 ·have hil:i = ys.length:=by omega
  subst hil
  have hA:=srt_asc hso (fun i h0 hi=>i2 i h0 hi)
  have hnd:(ys.map hd).Nodup:=List.pairwise_map.2 (hA.imp fun h e=>by omega)
  have hD:dupB ys = false:=by unfold dupB;rw [decide_eq_true hnd];rfl
  rw [if_neg (by rw [hD];simp)] at hEv
  have hnl:(l.map hd).Nodup:=(hp.map hd).nodup_iff.1 hnd
  obtain ⟨q1,q2⟩:=newL_ok l [] List.Pairwise.nil hnl
  have hy:newL l = ys:=asc_uniq q1 hA fun x=>by
   show x∈l.foldl putR []↔x∈ys
   rw [q2,hp.mem_iff]
   simp
  have hNS:newS s l = ⟨s,ys,[],0⟩:=by rw [newS,hEv,if_neg (by simp),hy]
  rw [hEv,hNS]
  exact .oA [] [53260]
end Go.Proofs
set_option linter.unusedSimpArgs false
set_option linter.unusedVariables false
namespace Go.Proofs
open Go Go.TL
set_option maxRecDepth 4000
set_option maxHeartbeats 8000000
theorem c_ref02_Same_self (s:Sch) (hs:SchSm s) (hc:∀ c∈s.cols,c.widths.length < 4611686018427387904):Spc Tryz.prog F_ref02_Same [schT s,schT s] [] (vB true) []:=by
 obtain ⟨hs1,hs2,hs3⟩:=hs
 refine spec_of_ir fn_ref02_Same mixm (by simp) fun e _ hst=>W_start ?_
 unfold ir_ref02_Same
 simp only [tZ,↓un_u,simprocAttr,bne_self_eq_false,Bool.or_false]
 refine W_loopF mixm (α:=Nat) [5] (fun i=>i≤s.lists.length) (fun i=>[(5,vI i)]) (fun i=>[(4096,.arr 2 [schT s] false),(4100,.arr 2 [schT s] false)]) (fun i=>s.lists.length - i) 0 (by omega) ?_ fun i hi=>?_
 ·exact .oA [(4096,some 4096),(4100,some 4100)] []
 refine sD ?_
 refine ⟨fun h2=>?_,fun h2=>?_⟩
 ·have hi2:i < s.lists.length:=by omega
  have hwi:=i64_succ (i:=i) (by omega)
  have hcl:=hs3 _ (List.getElem_mem hi2)
  simp only [tZ,↓un_u,simprocAttr,Int.toNat_natCast,getD_mapT hi2,bne_self_eq_false,Bool.or_false]
  refine ⟨by omega,by omega,by omega,by omega,by kernel_rfl,?_⟩
  refine W_loopF mixm (α:=Nat) [6] (fun k=>k≤s.lists[i].codes.length) (fun k=>[(6,vI k)]) (fun k=>[(4096,.arr 2 [schT s] false),(4100,.arr 2 [schT s] false)]) (fun k=>s.lists[i].codes.length - k) 0 (by omega) ?_ fun k hk=>?_
  ·exact .oA [(4096,some 4096),(4100,some 4100)] []
  simp only [tZ,↓un_u,simprocAttr,Int.toNat_natCast,getD_mapT hi2,tD]
  refine ⟨by omega,fun h3=>?_,fun h3=>?_⟩
  ·have hk2:k < s.lists[i].codes.length:=by omega
   have hwk:=i64_succ (i:=k) (by omega)
   simp only [tZ,↓un_u,simprocAttr,Int.toNat_natCast,getD_mapT hi2,getD_mapT hk2,hwk]
   refine ⟨by omega,by omega,by omega,by omega,by kernel_rfl,k + 1,by omega,by omega,?_⟩
   exact .oA [(4096,some 4096),(4100,some 4100)] []
  ·simp only [tZ,↓un_u,simprocAttr,hwi]
   refine ⟨i + 1,by omega,by omega,?_⟩
   exact .oA [(4096,some 4096),(4100,some 4100)] []
 ·have hil:i = s.lists.length:=by omega
  refine W_loopF mixm (α:=Nat) [7] (fun i=>i≤s.cols.length) (fun i=>[(7,vI i)]) (fun i=>[(4096,.arr 2 [schT s] false),(4100,.arr 2 [schT s] false)]) (fun i=>s.cols.length - i) 0 (by omega) ?_ fun i hi=>?_
  ·exact .oA [(4096,some 4096),(4100,some 4100)] []
  refine sD ?_
  refine ⟨fun h2=>?_,fun h2=>?_⟩
  ·have hi2:i < s.cols.length:=by omega
   have hwi:=i64_succ (i:=i) (by omega)
   have hI:=c_ref01_Ints s.cols[i].widths s.cols[i].widths (hc _ (List.getElem_mem hi2))
   rw [eqRow_iff.2 rfl] at hI
   simp only [tZ,↓un_u,simprocAttr,Int.toNat_natCast,getD_mapT hi2,bne_self_eq_false,Bool.or_false]
   refine ⟨by omega,by omega,by kernel_rfl,?_⟩
   refine C2.im (fun _=>hI) (fun _=>rfl) (by rfl) ?_
   simp only [tZ,↓un_u,simprocAttr,hwi]
   refine ⟨i + 1,by omega,by omega,?_⟩
   exact .oA [(4096,some 4096),(4100,some 4100)] []
  ·exact .oA [] []
theorem SchOk.wdl {s:Sch} (h:SchOk s) {c:Col} (hc:c∈s.cols):c.widths.length≤4:=by
 obtain ⟨i,hi,rfl⟩:=List.getElem_of_mem hc
 have hat:colAt s i = s.cols[i]:=by rw [colAt,getD_get hi]
 have hE:=h.cs i hi
 have hEc:=colE_kind hE
 rw [hat] at hEc
 by_cases k3:s.cols[i].kind = 3
 ·have hm:=hEc.2.2.2.2 k3
  unfold measE at hm
  split at hm
  ·cases hm
  ·split at hm
   ·cases hm
   ·omega
 ·unfold colE at hE
  rw [hat] at hE
  repeat (split at hE;first | (exfalso;revert hE;decide) | (rename_i q;try (exact absurd hE q.2)))
  all_goals omega
structure SmS (s:Src):Prop where
 sch:SchSm s.sch
 wid:∀ c∈s.sch.cols,c.widths.length < 4611686018427387904
 rows:s.rows.length < 4611686018427387904
 row:∀ r∈s.rows,r.length < 4611686018427387904
 gone:s.gone.length < 4611686018427387904
theorem SrcOk.same {s:Src} (h:SrcOk s):SmS s:=⟨(schE_ok h.sch).sm,fun c hc=>by have:=(schE_ok h.sch).wdl hc;omega,by have:=h.nr;omega,h.smy.2,by have:=h.ng;omega⟩
theorem src0_same:SmS src0:=⟨⟨by decide,by decide,by simp⟩,by simp,by decide,by simp,by decide⟩
theorem c_ref04_Same_self (s:Src) (h:SmS s):Spc Tryz.prog F_ref04_Same [srcT s,srcT s] [] (vB true) []:=by
 have hR:=c_ref01_Rows s.rows s.rows h.rows h.row
 rw [eqRows_iff.2 rfl] at hR
 have hI:=c_ref01_Ints s.gone s.gone h.gone
 rw [eqRow_iff.2 rfl] at hI
 refine spec_of_ir fn_ref04_Same mixm (by simp) fun e _ hst=>W_start ?_
 unfold ir_ref04_Same
 refine sW ?_
 refine C1.im (c_ref02_Same_self s.sch h.sch h.wid) (by rfl) (by rfl) ?_
 refine sW ?_
 refine C2.im (fun _=>hR) (fun _=>rfl) (by rfl) ?_
 refine sW ?_
 refine C2.im (fun _=>hI) (fun _=>rfl) (by rfl) ?_
 simp only [tZ,↓un_u,simprocAttr,beq_self_eq_true]
 exact .oA [] []
def aw4:Sch:=⟨[],[⟨⟨#[119,104,111]⟩,1,0,0,0,[],false⟩]⟩
def aw4x:Src:=⟨aw4,[[3],[7]],[],0⟩
def aw4y:Src:=⟨aw4,[[3]],[7],1⟩
theorem c_law04_awake:Spc Tryz.prog F_law04_awake [] [] (vB true) []:=by
 have hN:=c_source_New aw4 [[7],[3]] (by decide) (by decide) (by simp) (by decide)
 rw [show newS aw4 [[7],[3]] = aw4x by kernel_rfl,show newE aw4 [[7],[3]] = 0 by kernel_rfl] at hN
 have hsx:SrcSm aw4x:=⟨⟨by decide,by decide,by simp [aw4x,aw4]⟩,by simp [aw4x]⟩
 have hsy:SrcSm aw4y:=⟨⟨by decide,by decide,by simp [aw4y,aw4]⟩,by simp [aw4y]⟩
 have hA:=c_source_Apply aw4x ⟨4,[],7⟩ hsx (by decide) (by unfold idOk;decide)
 rw [show applyS aw4x ⟨4,[],7⟩ = aw4y by kernel_rfl,show applyE aw4x ⟨4,[],7⟩ = 0 by kernel_rfl] at hA
 have hB:=c_source_Apply aw4y ⟨1,[7],0⟩ hsy (by decide) (by unfold idOk;decide)
 rw [show applyS aw4y ⟨1,[7],0⟩ = src0 by kernel_rfl,show applyE aw4y ⟨1,[7],0⟩ = 20 by kernel_rfl] at hB
 have hV:=c_source_Valid aw4x (by decide) (by decide) (by simp [aw4x])
 rw [show srcB aw4x = true by kernel_rfl] at hV
 have hF:=c_source_Find aw4y 7 (by decide)
 rw [show findR aw4y 7 = -1 by kernel_rfl] at hF
 have hG:=c_source_Find aw4y 3 (by decide)
 rw [show findR aw4y 3 = 0 by kernel_rfl] at hG
 refine spec_of_ir fn_law04_awake mixm (by simp) fun e _ hst=>W_start ?_
 unfold ir_law04_awake
 refine sW ?_
 refine C1.shutD [8196,12292,12296,12300] hN ?_ (by rfl) rfl ?_
 ·simp [ptw,ltAD,ltD,TL.get,T.cells,imT,imL,aw4]
  all_goals (try (repeat' apply And.intro))
  all_goals (try rfl)
 refine sW ?_
 refine C1.shut [] hA ?_ (by rfl) rfl ?_
 ·all_goals (try exact clA)
 refine sW ?_
 refine C1.shutD [20484] hB ?_ (by rfl) rfl ?_
 ·simp [ptw,ltAD,ltD,TL.get,T.cells,imT,imL,aw4y]
  all_goals (try (repeat' apply And.intro))
  all_goals (try rfl)
 refine sW ?_
 refine C2.im (fun _=>hV) (fun _=>rfl) (by rfl) ?_
 refine sW ?_
 refine C2.im (fun _=>hF) (fun _=>rfl) (by rfl) ?_
 refine sW ?_
 refine C2.im (fun _=>hG) (fun _=>rfl) (by rfl) ?_
 refine sW ?_
 rw [show (((aw4x.rows.length:Nat):Int) == 2 && aw4y.ver == 1) = true by rfl]
 exact .oA [] []
end Go.Proofs
set_option linter.unusedSimpArgs false
set_option linter.unusedVariables false
namespace Go.Proofs
open Go Go.TL
theorem c_draw_Codes_Range (l:List UInt8) (at_:Nat) (lo hi:Int) (hl:l.length≤400) (ha:at_≤l.length) (hlo : -1000000≤lo∧lo≤1000000) (hhi:lo≤hi∧hi≤lo + 100000) :
 Spc Tryz.prog F_draw_Codes_Range [.ptr 0 1 0 0,vI lo,vI hi] [(0,oC l at_)] (vI (lo + (nx l at_ (hi - lo + 1)).1)) [(0,oC l (nx l at_ (hi - lo + 1)).2)]:=by
 refine spec_of_ir fn_draw_Codes_Range mixm (by simp) fun e _ hst=>W_start ?_
 unfold ir_draw_Codes_Range
 have hw1:IntKind.i64.wrap (hi - lo) = hi - lo:=IntWalk.i64_in _ (by omega)
 have hw2:IntKind.i64.wrap (hi - lo + 1) = hi - lo + 1:=IntWalk.i64_in _ (by omega)
 simp only [tZ,↓un_u,simprocAttr,hw1,hw2]
 refine C1.draw 0 l at_ _ (c_draw_Codes_Next l at_ (hi - lo + 1) hl ha (by omega)) rfl rfl rfl ?_
 have hr:=nx_range l at_ (hi - lo + 1) (by omega)
 have hw3:IntKind.i64.wrap (lo + (nx l at_ (hi - lo + 1)).1) = lo + (nx l at_ (hi - lo + 1)).1:=IntWalk.i64_in _ (by omega)
 simp only [tZ,↓un_u,simprocAttr,hw3]
 refine .of [(0,some 0)] [] rfl rfl ?_ ?_
 ·simp only [tL,simprocAttr]
  exact ltXs_cons ⟨rfl,rfl,rfl,rfl,trivial⟩ ltXs_nil
 ·simp only [tL,simprocAttr]
end Go.Proofs
set_option linter.unusedSimpArgs false
set_option linter.unusedVariables false
namespace Go.Proofs
open Go Go.TL
set_option maxRecDepth 4000
def iter {α:Type} (f:α→α):Nat→α→α
 | 0,x=>x
 | n + 1,x=>f (iter f n x)
def cut (n:Int):Int×Int:=(n / 1024,n % 1024)
end Go.Proofs
set_option linter.unusedSimpArgs false
set_option linter.unusedVariables false
namespace Go.Proofs
open Go Go.TL
set_option maxHeartbeats 4000000
open So
def drw0 (seed id:Int):Int:=IntKind.u64.wrap (IntKind.u64.wrap (IntKind.u64.wrap (IntKind.u64.wrap seed * 2654435761) + IntKind.u64.wrap (IntKind.u64.wrap id * 40503)) + 97)
def drwA (h:Int):Int:=IntKind.u64.wrap (IntKind.u64.wrap (h * 6364136223846793005) + 1442695040888963407)
def drwX (h:Int):Int:=xorI .u64 (drwA h) (shrI .u64 (drwA h) 29)
def drwI (seed id:Int):Int:=IntKind.i64.wrap (shrI .u64 (iter drwX 3 (drw0 seed id)) 32)
def inS (x:Smp) (id:Int):Bool:=(smpE x == 0) && decide (1≤id) && decide (id≤1048575) && decide ((drwI x.seed id).tmod x.of < x.part)
def ownP (s:Src) (d:Dcl) (r:List Int):Bool:=(evalI s.sch d.coh r == 1) && inS d.smp (hd r)
def ownR (s:Src) (d:Dcl):List (List Int):=if srcB s = false∨dclE s.sch d≠0 then [] else s.rows.filter (ownP s d)
def ownS (s:Src) (d:Dcl):List Int:=(ownR s d).map hd
end Go.Proofs
set_option linter.unusedSimpArgs false
set_option linter.unusedVariables false
namespace Go.Proofs
open Go Go.TL
set_option maxHeartbeats 4000000
def buildE (s:Src) (d:Dcl) (l:List Pk) (k:Int):Int:=if srcB s = false then 13 else if chk10 s.sch d l≠0 then chk10 s.sch d l else if k < 0∨k≥1152921504606846976 then 2 else 0
end Go.Proofs
