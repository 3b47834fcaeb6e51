/- A part of the proof: C15. -/
import Derived.WalkKit
import Derived.Still
import Derived.MapKept
import GoSem.Builtin.Cap
import Derived.Laws.Externs
import GoSem.Extern.SlicesOverlaps
import Derived.Carry
import Derived.ProofKit
import Derived.OpenShut
import Derived.HandedShaped
import Derived.Lay
import Derived.LaidLaws
import Derived.MakeChecks
import Derived.SevenTiedAt
import Derived.Test.YtlpllebfjgflaaaGreatDoorChecked
import Derived.Test.YtlpllebfjgflaaaGreatDoorK20
set_option linter.unusedSimpArgs false
set_option linter.unusedVariables false
namespace Go.Proofs
open Go Go.TL
set_option maxRecDepth 4000
set_option maxHeartbeats 8000000
theorem modI_in (n:Int) {m:Int} (h:0 < m):0≤modI n m∧modI n m < m:=by
 unfold modI
 rw [if_neg (by omega)]
 exact ⟨Int.emod_nonneg n (by omega),Int.emod_lt_of_pos n h⟩
theorem apply_parts {s:Src} {d:Edt} (h:SrcOk s) (he:applyE s d = 0):(d.kind = 1∨d.kind = 2)∧rowE s.sch d.row = 0∧s.gone.contains (hd d.row) = false∧applyS s d = ⟨s.sch,putR s.rows d.row,s.gone,s.ver + 1⟩∨
 d.kind = 3∧hasK s.rows d.id = true∧applyS s d = ⟨s.sch,dropR s.rows d.id,s.gone,s.ver + 1⟩∨
 d.kind = 4∧(1≤d.id∧d.id≤1048575)∧s.gone.contains d.id = false∧applyS s d = ⟨s.sch,dropR s.rows d.id,putI s.gone d.id,s.ver + 1⟩:=by
 have hS:applyS s d = ⟨s.sch,applyR s d,if d.kind = 4 then putI s.gone d.id else s.gone,s.ver + 1⟩:=by rw [applyS,if_neg (by rw [he];simp)]
 have hv:s.ver≠300:=fun e=>by rw [applyE,if_pos (.inr e)] at he;cases he
 have hc:=chg_apply (d:=d) h hv
 rw [he] at hc
 unfold chgE at hc
 by_cases k12:d.kind = 1∨d.kind = 2
 ·rw [if_pos k12] at hc
  obtain ⟨_,q2,q3⟩:=put0 hc
  rw [applyR,if_pos k12,if_neg (by omega)] at hS
  exact .inl ⟨k12,q2,q3,hS⟩
 ·rw [if_neg k12] at hc
  by_cases k3:d.kind = 3
  ·rw [if_pos k3] at hc
   rw [applyR,if_neg k12,if_neg (by omega)] at hS
   refine .inr (.inl ⟨k3,?_,hS⟩)
   cases e:hasK s.rows d.id with
   | true=>rfl
   | false=>rw [if_pos e] at hc;cases hc
  ·rw [if_neg k3] at hc
   by_cases k4:d.kind = 4
   ·rw [if_pos k4] at hc
    rw [applyR,if_neg k12,if_pos k4] at hS
    refine .inr (.inr ⟨k4,?_,?_,hS⟩)
    ·split at hc
     ·cases hc
     ·omega
    ·split at hc
     ·cases hc
     ·cases e:s.gone.contains d.id with
      | false=>rfl
      | true=>rw [if_pos e] at hc;cases hc
   ·rw [if_neg k4] at hc;cases hc
theorem hasK_no {l:List (List Int)} {k:Int}:hasK l k = false↔∀ r∈l,hd r≠k:=by
 unfold hasK
 rw [List.any_eq_false]
 simp
theorem apply_keep {s:Src} {d:Edt} (h:SrcOk s) (he:applyE s d = 0) {k:Int} (hg:s.gone.contains k = true) (hk:hasK s.rows k = false):(applyS s d).gone.contains k = true∧hasK (applyS s d).rows k = false∧(applyS s d).ver = s.ver + 1∧(applyS s d).sch = s.sch:=by
 rw [hasK_no] at hk ⊢
 rcases apply_parts h he with ⟨_,_,q3,q4⟩ | ⟨_,_,q4⟩ | ⟨_,_,q3,q4⟩
 ·rw [q4]
  refine ⟨hg,fun r hr=>?_,rfl,rfl⟩
  rcases (putR_mem h.asc).1 hr with e | ⟨e,_⟩
  ·intro e2
   rw [e] at e2
   rw [e2,hg] at q3
   cases q3
  ·exact hk r e
 ·rw [q4]
  exact ⟨hg,fun r hr=>hk r (List.mem_filter.1 hr).1,rfl,rfl⟩
 ·rw [q4]
  refine ⟨List.contains_iff_mem.2 (putI_mem.2 (.inr (List.contains_iff_mem.1 hg))),fun r hr=>hk r (List.mem_filter.1 hr).1,rfl,rfl⟩
theorem row_id {s:Sch} {r0 k:Int} {rs:List Int} (h:rowE s (r0 :: rs) = 0) (hk:1≤k∧k≤1048575):rowE s (k :: rs) = 0:=by
 obtain ⟨h1,h2,h3⟩:=rowE_ok h
 refine rowE_of h1 h2 fun i hi=>?_
 rcases Nat.eq_zero_or_pos i with h0 | h0
 ·subst h0
  unfold holdsB
  rw [if_pos (schE_ok h1).c0]
  simp [inB]
  omega
 ·obtain ⟨j,rfl⟩:∃ j,i = j + 1:=⟨i - 1,by omega⟩
  exact h3 (j + 1) hi
theorem withdraw_first {x:Src} (h:SrcOk x) (hg:x.gone = []) (hv:x.ver = 0) {k:Int} (hk:1≤k∧k≤1048575):applyE x ⟨4,[],k⟩ = 0∧applyS x ⟨4,[],k⟩ = ⟨x.sch,dropR x.rows k,[k],1⟩:=by
 have he:applyE x ⟨4,[],k⟩ = 0:=by
  have hc:=chg_apply (d:=⟨4,[],k⟩) h (by omega)
  rw [← hc,chgE,if_neg (by dsimp only;omega),if_neg (by dsimp only;omega),if_pos rfl]
  dsimp only
  rw [if_neg (by omega),hg]
  rfl
 refine ⟨he,?_⟩
 rw [applyS,if_neg (by rw [he];simp),applyR,if_neg (by dsimp only;omega),if_pos rfl,hg,hv]
 rfl
theorem findR_no {s:Src} (h:SrcOk s) {k:Int} (hk:hasK s.rows k = false):findR s k = -1:=by
 rw [findR,if_neg]
 intro e
 obtain ⟨r,hr,e⟩:=List.any_eq_true.1 e
 rw [atR_ok (h.rows r hr)] at e
 exact hasK_no.1 hk r hr (by simpa using e)
theorem wd_checks {y:Src} (h:SrcOk y) {k:Int} (hg:y.gone.contains k = true) (hk:hasK y.rows k = false) :
 Spc Tryz.prog F_source_Find [srcT y,vI k] [] (vI (-1)) []∧Spc Tryz.prog F_ref01_Has [vIs y.gone,vI k] [] (vB true) []∧Spc Tryz.prog F_source_Valid [srcT y] [] (vB true) []∧Spc Tryz.prog F_ref04_Valid [srcT y] [] (vB true) []:=by
 have h1:=c_source_Find y k (by have:=h.nr;omega)
 rw [findR_no h hk] at h1
 have h2:=c_ref01_Has y.gone k (by have:=h.ng;omega)
 rw [hg] at h2
 have h3:=c_source_Valid y (by have:=(schE_ok h.sch).nc;omega) (by have:=(schE_ok h.sch).nl;omega) h.smy.2
 rw [srcB_ok.2 h] at h3
 have h4:=c_ref04_Valid y h.smy
 rw [srcB_ok.2 h] at h4
 exact ⟨h1,h2,h3,h4⟩
theorem c_law04_SourceWithdraws (l:List UInt8) (n:Int):Spc Tryz.prog F_law04_SourceWithdraws [vL l,vI n] [] (vB true) []:=by
 have hl4:(l.take 400).length≤400:=by rw [List.length_take];omega
 obtain ⟨⟨x,a1⟩,⟨hX,ha1⟩,sS⟩:=c_draw_Codes_Source 6 (l.take 400) 0 hl4 (by omega) (by omega)
 dsimp only at hX ha1 sS
 have hM:=modI_in n (m:=60) (by decide)
 have sM:=c_draw_Mod n 60 (by decide)
 obtain ⟨k,hk⟩:∃ k,k = 1 + modI n 60:=⟨_,rfl⟩
 have hw:IntKind.i64.wrap (1 + modI n 60) = k:=by rw [hk];exact IntWalk.i64_in _ (by omega)
 have hkr:1≤k∧k≤1048575:=by omega
 obtain ⟨w1,w2⟩:=withdraw_first hX.ok hX.gone hX.ver hkr
 have sA:=c_source_Apply x ⟨4,[],k⟩ hX.ok.smy (by simp) ⟨by dsimp only;omega,by dsimp only;omega⟩
 obtain ⟨hy,hyg⟩:=apply_ok hX.ok (by rw [hX.gone,hX.ver];simp) w1
 rw [w1] at sA
 have hy0:SrcOk (applyS x ⟨4,[],k⟩)∧(applyS x ⟨4,[],k⟩).sch = x.sch∧(applyS x ⟨4,[],k⟩).gone.contains k = true∧hasK (applyS x ⟨4,[],k⟩).rows k = false∧((applyS x ⟨4,[],k⟩).gone.length:Int)≤(applyS x ⟨4,[],k⟩).ver∧(applyS x ⟨4,[],k⟩).ver≤1:=by
  refine ⟨hy,?_,?_,?_,hyg,?_⟩
  ·rw [w2]
  ·rw [w2];simp
  ·rw [w2,hasK_no]
   intro r hr
   have:=(List.mem_filter.1 hr).2
   simpa using this
  ·rw [w2];exact Int.le_refl 1
 generalize applyS x ⟨4,[],k⟩ = y at sA hy0
 have sV:=c_ref04_Valid y hy0.1.smy
 rw [srcB_ok.2 hy0.1] at sV
 refine spec_of_ir fn_law04_SourceWithdraws mixm (by simp) fun e _ hst=>W_start ?_
 unfold ir_law04_SourceWithdraws
 refine sW ?_
 refine C1.newdraw 8196 (c_draw_New l) rfl rfl ?_
 generalize l.take 400 = m at hl4 sS ha1 ⊢
 refine sW ?_
 refine C1.draw 8196 m 0 _ sS rfl rfl rfl ?_
 refine sW ?_
 refine C1.im sM (by rfl) (by rfl) ?_
 simp only [tZ,↓un_u,simprocAttr,hw]
 refine C1.shut [] sA ?_ (by rfl) rfl ?_
 ·all_goals (try exact clA)
 refine sW ?_
 refine C2.im (fun _=>sV) (fun _=>rfl) (by rfl) ?_
 refine sW ?_
 obtain ⟨y1,y2,y3,y4,y5,y6⟩:=hy0
 clear hyg hy sA sV sS w1 w2
 refine W_loopF mixm (α:=Nat×Src×Nat) [10] (fun q=>q.1≤8∧SrcOk q.2.1∧q.2.1.sch = x.sch∧q.2.1.gone.contains k = true∧hasK q.2.1.rows k = false∧(q.2.1.gone.length:Int)≤q.2.1.ver∧q.2.1.ver≤1 + q.1∧q.2.2≤m.length) (fun q=>[(10,vI q.1)]) (fun q=>[(8196,oC m q.2.2),(12296,.arr 5 [srcT x] false),(20508,.arr 5 [srcT q.2.1] false)]) (fun q=>8 - q.1) (0,y,a1) ⟨by simp,y1,y2,y3,y4,y5,by dsimp only;omega,ha1⟩ ?_ fun q hq=>?_
 ·exact .oA [(8196,some 8196),(12296,some 12296),(20508,some 20508)] []
 clear y1 y2 y3 y4 y5 y6
 clear y
 obtain ⟨i,y,a⟩:=q
 obtain ⟨i1,y1,y2,y3,y4,y5,y6,ha⟩:=hq
 dsimp only at i1 y1 y2 y3 y4 y5 y6 ha
 refine sD ?_
 refine ⟨fun h2=>?_,fun h2=>?_⟩
 ·have hwi:=i64_succ (i:=i) (by omega)
  have hnr:=y1.nr
  obtain ⟨⟨d,a2⟩,⟨hd1,ha2⟩,sE⟩:=c_draw_Codes_Edit y (by rw [y2];exact hX.sch) (fun r hr=>row_pos (y1.rows r hr)) (fun r hr=>hd_in (y1.rows r hr)) (by omega) m a hl4 ha
  dsimp only at hd1 ha2 sE
  refine C1.draw 8196 m a _ sE rfl rfl rfl ?_
  by_cases hm:(i:Int).tmod 3 = 0
  ·have hm3:((i:Int).tmod 3 == 0) = true:=by rw [hm];rfl
   obtain ⟨⟨row,a3⟩,⟨hr3,ha3⟩,sR⟩:=c_draw_Codes_Row x.sch hX.sch m a2 hl4 ha2
   dsimp only at hr3 ha3 sR
   obtain ⟨r0,rs,rfl⟩:∃ r0 rs,row = r0 :: rs:=by
    cases row with
    | nil=>have:=row_pos hr3;simp at this
    | cons r0 rs=>exact ⟨r0,rs,rfl⟩
   have hrk:=row_id hr3 hkr
   have hrl:=(rowE_ok hrk).2.1
   have hnc:=(schE_ok hX.sch.ok).nc
   obtain ⟨kd,hkd,kd1⟩:∃ kd,IntKind.i64.wrap (1 + (i:Int).tmod 2) = kd∧(kd = 1∨kd = 2):=by
    refine ⟨_,rfl,?_⟩
    have h1:=Int.tmod_eq_emod_of_nonneg (a:=(i:Int)) (b:=2) (by omega)
    rw [h1,IntWalk.i64_in _ (by omega)]
    omega
   have hE20:applyE y ⟨kd,k :: rs,0⟩ = 20:=by
    rw [applyE,if_neg (by rw [srcB_ok.2 y1];simp;omega),if_pos (by exact kd1),y2,if_neg (by rw [hrk];simp),if_pos (by exact y3)]
   have sB:=c_source_Apply y ⟨kd,k :: rs,0⟩ y1.smy (by dsimp only;omega) ⟨by dsimp only;omega,by dsimp only;omega⟩
   rw [hE20,applyS,if_pos (by rw [hE20];decide)] at sB
   simp only [tZ,↓un_u,simprocAttr,hm3]
   refine C1.drawF 8196 53260 m a2 a3 sR rfl rfl (ints_v _) rfl ?_
   simp only [tZ,↓un_u,simprocAttr,hkd,hm3]
   refine ⟨by omega,by omega,?_⟩
   refine C1.shut [53260] sB ?_ (by rfl) rfl ?_
   ·all_goals (try exact clA)
   simp only [tZ,↓un_u,simprocAttr,hm3]
   obtain ⟨f1,f2,f3,f4⟩:=wd_checks y1 y3 y4
   refine C1.im f1 (by rfl) (by rfl) ?_
   refine sW ?_
   refine C2.im (fun _=>f2) (fun _=>rfl) (by rfl) ?_
   refine sW ?_
   refine C2.im (fun _=>f3) (fun _=>rfl) (by rfl) ?_
   refine sW ?_
   refine C2.im (fun _=>f4) (fun _=>rfl) (by rfl) ?_
   simp only [tZ,↓un_u,simprocAttr,hwi]
   refine ⟨(i + 1,y,a3),⟨by dsimp only;omega,y1,y2,y3,y4,y5,by dsimp only;omega,ha3⟩,by dsimp only;omega,?_⟩
   exact .oA [(8196,some 8196),(12296,some 12296),(20508,some 20508)] []
  ·have hm3:((i:Int).tmod 3 == 0) = false:=beq_eq_false_iff_ne.2 hm
   simp only [tZ,↓un_u,simprocAttr,hm3]
   have sB:=c_source_Apply y d y1.smy (by have:=hd1.len;omega) ⟨by have:=hd1.id;omega,by have:=hd1.id;omega⟩
   refine C1.im sB (by rfl) (by rfl) ?_
   simp only [tZ,↓un_u,simprocAttr,beq_iff_eq,beq_eq_false_iff_ne,hm3]
   refine ⟨fun h3=>?_,fun h3=>?_⟩
   ·obtain ⟨z1,z2⟩:=apply_ok y1 y5 h3
    obtain ⟨z3,z4,z5,z6⟩:=apply_keep y1 h3 y3 y4
    generalize applyS y d = z at z1 z2 z3 z4 z5 z6 ⊢
    obtain ⟨f1,f2,f3,f4⟩:=wd_checks z1 z3 z4
    refine C1.im f1 (by rfl) (by rfl) ?_
    refine sW ?_
    refine C2.im (fun _=>f2) (fun _=>rfl) (by rfl) ?_
    refine sW ?_
    refine C2.im (fun _=>f3) (fun _=>rfl) (by rfl) ?_
    refine sW ?_
    refine C2.im (fun _=>f4) (fun _=>rfl) (by rfl) ?_
    simp only [tZ,↓un_u,simprocAttr,hwi]
    refine ⟨(i + 1,z,a2),⟨by dsimp only;omega,z1,z6.trans y2,z3,z4,z2,by dsimp only;omega,ha2⟩,by dsimp only;omega,?_⟩
    exact .oA [(8196,some 8196),(12296,some 12296),(20508,some 20508)] []
   ·obtain ⟨f1,f2,f3,f4⟩:=wd_checks y1 y3 y4
    refine C1.im f1 (by rfl) (by rfl) ?_
    refine sW ?_
    refine C2.im (fun _=>f2) (fun _=>rfl) (by rfl) ?_
    refine sW ?_
    refine C2.im (fun _=>f3) (fun _=>rfl) (by rfl) ?_
    refine sW ?_
    refine C2.im (fun _=>f4) (fun _=>rfl) (by rfl) ?_
    simp only [tZ,↓un_u,simprocAttr,hwi]
    refine ⟨(i + 1,y,a2),⟨by dsimp only;omega,y1,y2,y3,y4,y5,by dsimp only;omega,ha2⟩,by dsimp only;omega,?_⟩
    exact .oA [(8196,some 8196),(12296,some 12296),(20508,some 20508)] []
 ·refine C1.im c_law04_awake (by rfl) (by rfl) ?_
  refine sW ?_
  exact .oA [] []
end Go.Proofs
