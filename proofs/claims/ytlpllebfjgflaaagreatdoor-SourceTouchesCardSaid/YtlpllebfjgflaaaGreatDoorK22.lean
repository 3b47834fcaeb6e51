/- A part of the proof: C16. -/
import Derived.WalkKit
import Derived.Still
import Derived.MapKept
import GoSem.Builtin.Cap
import Derived.Laws.Externs
import GoSem.Extern.SlicesOverlaps
import Derived.Carry
import Derived.ProofKit
import Derived.OpenShut
import Derived.HandedShaped
import Derived.Lay
import Derived.LaidLaws
import Derived.MakeChecks
import Derived.SevenTiedAt
import Derived.Test.YtlpllebfjgflaaaGreatDoorChecked
import Derived.Test.YtlpllebfjgflaaaGreatDoorK21
set_option linter.unusedSimpArgs false
set_option linter.unusedVariables false
namespace Go.Proofs
open Go Go.TL
set_option maxRecDepth 4000
set_option maxHeartbeats 8000000
theorem atS_pre {s:Src} {l m:List Edt} (h:(atS s (l ++ m)).2 = 0):(atS s l).2 = 0:=
 Classical.byContradiction fun k=>by
  rw [atS_stays l m s k] at h
  exact k h
theorem atS_app:∀ {l m:List Edt} {s:Src},(atS s l).2 = 0→atS s (l ++ m) = atS (atS s l).1 m
 | [],m,s,_=>rfl
 | e :: l,m,s,h=>by
   rw [atS] at h
   rw [List.cons_append,atS,atS]
   split at h
   ·rename_i h1;exact absurd h h1
   ·rename_i h1
    rw [if_neg h1,if_neg h1]
    exact atS_app h
theorem apply_ver {s:Src} {d:Edt} (h:applyE s d = 0):(applyS s d).ver = s.ver + 1:=by rw [applyS,if_neg (by rw [h];simp)]
theorem atS_ver:∀ {l:List Edt} {s:Src},(atS s l).2 = 0→(atS s l).1.ver = s.ver + l.length
 | [],s,_=>by simp [atS]
 | e :: l,s,h=>by
   rw [atS] at h ⊢
   split at h
   ·rename_i h1;exact absurd h h1
   ·rename_i h1
    rw [if_neg h1,atS_ver h,apply_ver (Classical.byContradiction h1),List.length_cons]
    omega
theorem atI_eq {s:Src} {l:List Edt} {a:Nat} (h:a≤l.length):atI s l a = atS s (l.take a):=by rw [atI,if_neg (by omega),Int.toNat_natCast]
theorem same_row {p q:Src} (hp:SrcOk p) (hq:SrcOk q) {k:Int} (h:∀ r,hd r = k→(r∈p.rows↔r∈q.rows)):findR p k = -1∧findR q k = -1∨∃ (i j:Nat) (hi:i < p.rows.length) (hj:j < q.rows.length),findR p k = i∧findR q k = j∧p.rows[i] = q.rows[j]:=by
 rcases findR_at hp k with ⟨a1,a2⟩ | ⟨i,hi,a1,a2⟩
 ·rcases findR_at hq k with ⟨b1,b2⟩ | ⟨j,hj,b1,b2⟩
  ·exact .inl ⟨a1,b1⟩
  ·exact absurd b2 (a2 _ ((h _ b2).2 (List.getElem_mem hj)))
 ·rcases findR_at hq k with ⟨b1,b2⟩ | ⟨j,hj,b1,b2⟩
  ·exact absurd a2 (b2 _ ((h _ a2).1 (List.getElem_mem hi)))
  ·exact .inr ⟨i,j,hi,hj,a1,b1,asc_key hq.asc ((h _ a2).1 (List.getElem_mem hi)) (List.getElem_mem hj) (a2.trans b2.symm)⟩
theorem c_law04_SourceTouches (l:List UInt8) (n1 n2:Int):Spc Tryz.prog F_law04_SourceTouches [vL l,vI n1,vI n2] [] (vB true) []:=by
 have hl4:(l.take 400).length≤400:=by rw [List.length_take];omega
 obtain ⟨⟨x,a1⟩,⟨hX,ha1⟩,sS⟩:=c_draw_Codes_Source 6 (l.take 400) 0 hl4 (by omega) (by omega)
 dsimp only at hX ha1 sS
 obtain ⟨⟨es,a2⟩,⟨he0,hel,hed,ha2⟩,sE⟩:=c_draw_Codes_EditsI x hX 9 (l.take 400) a1 hl4 ha1 (by omega)
 dsimp only at he0 hel hed ha2 sE
 have hx:=hX.ok
 have hxg:(x.gone.length:Int)≤x.ver:=by rw [hX.gone,hX.ver];simp
 have hM1:=modI_in n1 (m:=(es.length:Int) + 1) (by omega)
 have sM1:=c_draw_Mod n1 ((es.length:Int) + 1) (by omega)
 obtain ⟨a,ha⟩:=Int.eq_ofNat_of_zero_le hM1.1
 rw [ha] at sM1 hM1
 have hM2:=modI_in n2 (m:=(es.length:Int) - a + 1) (by omega)
 have sM2:=c_draw_Mod n2 ((es.length:Int) - a + 1) (by omega)
 obtain ⟨c,hc⟩:=Int.eq_ofNat_of_zero_le hM2.1
 rw [hc] at sM2 hM2
 have hae:a≤es.length:=by omega
 have hbe:a + c≤es.length:=by omega
 have hw1:IntKind.i64.wrap ((es.length:Int) + 1) = (es.length:Int) + 1:=IntWalk.i64_in _ (by omega)
 have hw2:IntKind.i64.wrap ((es.length:Int) - a) = (es.length:Int) - a:=IntWalk.i64_in _ (by omega)
 have hw3:IntKind.i64.wrap ((es.length:Int) - a + 1) = (es.length:Int) - a + 1:=IntWalk.i64_in _ (by omega)
 have hw4:IntKind.i64.wrap ((a:Int) + (c:Int)) = ((a + c:Nat):Int):=by rw [IntWalk.i64_in _ (by omega)];omega
 have hw5:IntKind.i64.wrap (((a + c:Nat):Int) - (a:Int)) = (c:Int):=by rw [IntWalk.i64_in _ (by omega)];omega
 have hdd:∀ d∈es,d.row.length < 4611686018427387904∧idOk d.id:=fun d hd=>⟨by have:=(hed d hd).len;omega,by have:=(hed d hd).id;unfold idOk;omega⟩
 have e1:es = es.take a ++ es.drop a:=(List.take_append_drop a es).symm
 have hpa:(atS x (es.take a)).2 = 0:=atS_pre (m:=es.drop a) (by rw [← e1];exact he0)
 have e2:es = es.take (a + c) ++ es.drop (a + c):=(List.take_append_drop _ es).symm
 have hqa:(atS x (es.take (a + c))).2 = 0:=atS_pre (m:=es.drop (a + c)) (by rw [← e2];exact he0)
 have e3:es.take (a + c) = es.take a ++ (es.drop a).take c:=by rw [List.take_add]
 obtain ⟨hp1,hp2,hp3⟩:=atS_ok hx hxg hpa
 obtain ⟨hq1,hq2,hq3⟩:=atS_ok hx hxg hqa
 have hqv:=atS_ver hqa
 have hpv:=atS_ver hpa
 have hra:=atS_app (m:=(es.drop a).take c) hpa
 rw [← e3] at hra
 have sP:=c_source_At x es a hx hdd (by omega)
 have sQ:=c_source_At x es ((a + c:Nat):Int) hx hdd (by omega)
 have sR:=c_source_At (atS x (es.take a)).1 (es.drop a) c hp1 (fun d hd=>hdd d (List.mem_of_mem_drop hd)) (by rw [List.length_drop];omega)
 rw [atI_eq hae,hpa] at sP
 rw [atI_eq hbe,hqa] at sQ
 rw [atI_eq (by rw [List.length_drop];omega),← hra,hqa] at sR
 have hsr:∀ r,hd r∉((es.drop a).take c).flatMap touchL→(r∈(atS x (es.take a)).1.rows↔r∈(atS x (es.take (a + c))).1.rows):=fun r hr=>by
  rw [hra]
  rw [hra] at hqa
  exact (at_same hp1 hp2 hqa hr).symm
 rw [List.length_take] at hqv hpv
 generalize (atS x (es.take a)).1 = p at sP sR hp1 hp2 hp3 hpv hsr
 generalize (atS x (es.take (a + c))).1 = q at sQ sR hq1 hq2 hq3 hqv hsr
 have sM:=c_ref04_Same_self q hq1.same
 have sT:=c_source_Touched es a ((a + c:Nat):Int) (by omega)
 have hT:touchS es a ((a + c:Nat):Int) = setI (((es.drop a).take c).flatMap touchL):=by
  unfold touchS segL
  rw [if_neg (by omega),Int.toNat_natCast,Int.toNat_natCast]
  congr 2
  rw [List.drop_take]
  congr 1
  omega
 have hTl:=touchS_len es a ((a + c:Nat):Int)
 rw [hT] at sT hTl
 have hTm:∀ r,hd r∉setI (((es.drop a).take c).flatMap touchL)→(r∈p.rows↔r∈q.rows):=fun r hr=>hsr r fun k=>hr (setI_mem.2 k)
 generalize setI (((es.drop a).take c).flatMap touchL) = K at sT hTl hTm
 have hvd:IntKind.i64.wrap (q.ver - p.ver) = (c:Int):=by
  rw [hqv,hpv,hX.ver,IntWalk.i64_in _ (by omega)]
  omega
 clear hra hqa hpa e1 e2 e3 hsr he0 hed
 refine spec_of_ir fn_law04_SourceTouches mixm (by simp) fun e _ hst=>W_start ?_
 unfold ir_law04_SourceTouches
 refine sW ?_
 refine C1.newdraw 8196 (c_draw_New l) rfl rfl ?_
 generalize l.take 400 = m at hl4 sS sE ha1 ha2 ⊢
 refine sW ?_
 refine C1.draw 8196 m 0 _ sS rfl rfl rfl ?_
 refine sW ?_
 refine C1.draw 8196 m a1 _ sE rfl rfl rfl ?_
 simp only [tZ,↓un_u,simprocAttr,hw1]
 refine C1.im sM1 (by rfl) (by rfl) ?_
 simp only [tZ,↓un_u,simprocAttr,hw2,hw3]
 refine C1.im sM2 (by rfl) (by rfl) ?_
 simp only [tZ,↓un_u,simprocAttr,hw4]
 refine C1.im sP (by rfl) (by rfl) ?_
 refine sW ?_
 refine C1.im sQ (by rfl) (by rfl) ?_
 simp only [tZ,↓un_u,simprocAttr,hw5]
 refine ⟨by omega,?_⟩
 rw [cut_map,cut_from]
 refine C1.im sR (by rfl) (by rfl) ?_
 refine sW ?_
 refine ⟨by kernel_rfl,?_⟩
 refine C2.im (fun _=>sM) (fun _=>rfl) (by rfl) ?_
 simp only [tZ,↓un_u,simprocAttr,hvd,hw5,bne_self_eq_false,Bool.or_false]
 refine C1.im sT (by rfl) (by rfl) ?_
 refine sW ?_
 have hnp:=hp1.nr
 have hnq:=hq1.nr
 refine W_loopF mixm (α:=Nat) [19] (fun i=>1≤i∧i≤61) (fun i=>[(19,vI i)]) (fun i=>[(28700,.arr 5 [srcT p] false),(32796,.arr 5 [srcT q] false)]) (fun i=>61 - i) 1 (by omega) ?_ fun i hi=>?_
 ·exact .oA [(28700,some 28700),(32796,some 32796)] []
 refine sD ?_
 refine ⟨fun h2=>?_,fun h2=>?_⟩
 ·have hwi:=i64_succ (i:=i) (by omega)
  have fP:=c_ref04_Find p i (by omega)
  have fQ:=c_ref04_Find q i (by omega)
  have sH:=c_ref01_Has K i (by omega)
  have hno:K.contains (i:Int) = false→∀ r,hd r = (i:Int)→(r∈p.rows↔r∈q.rows):=fun hc r e=>hTm r (by
   rw [e]
   intro hm
   rw [List.contains_iff_mem.2 hm] at hc
   cases hc)
  have hsame:=fun hc=>same_row hp1 hq1 (hno hc)
  rcases findR_at hp1 (i:Int) with ⟨b1,b2⟩ | ⟨j,hj,b1,b2⟩
  ·rw [b1] at fP
   rcases findR_at hq1 (i:Int) with ⟨d1,d2⟩ | ⟨k,hk,d1,d2⟩
   ·rw [d1] at fQ
    refine C1.im fP (by rfl) (by rfl) ?_
    refine sW ?_
    refine C1.im fQ (by rfl) (by rfl) ?_
    refine sW ?_
    refine ⟨by kernel_rfl,?_⟩
    refine C2.no (fun h=>h) ?_
    simp only [tZ,↓un_u,simprocAttr,labE_u,pickX_u,G2_none,not_false_eq_true,true_and]
    refine ⟨by kernel_rfl,?_⟩
    refine C2.im (fun _=>sH) (fun _=>rfl) (by rfl) ?_
    simp only [tZ,↓un_u,simprocAttr,hwi]
    refine ⟨i + 1,by omega,by omega,?_⟩
    exact .oA [(28700,some 28700),(32796,some 32796)] []
   ·rw [d1] at fQ
    have hc:K.contains (i:Int) = true:=by
     cases e:K.contains (i:Int) with
     | true=>rfl
     | false=>exact absurd ((hno e _ d2).2 (List.getElem_mem hk)) fun hm=>b2 _ hm d2
    rw [hc] at sH
    have hk1:decide ((k:Int) < 0) = false:=decide_eq_false (by omega)
    refine C1.im fP (by rfl) (by rfl) ?_
    refine sW ?_
    refine C1.im fQ (by rfl) (by rfl) ?_
    simp only [tZ,↓un_u,simprocAttr,hk1]
    refine ⟨by kernel_rfl,?_⟩
    refine C2.no (fun h=>h) ?_
    simp only [tZ,↓un_u,simprocAttr,hk1,labE_u,pickX_u,G2_none,not_false_eq_true,true_and]
    refine ⟨by kernel_rfl,?_⟩
    refine C2.im (fun _=>sH) (fun _=>rfl) (by rfl) ?_
    simp only [tZ,↓un_u,simprocAttr,hwi,hk1]
    refine ⟨i + 1,by omega,by omega,?_⟩
    exact .oA [(28700,some 28700),(32796,some 32796)] []
  ·rw [b1] at fP
   rcases findR_at hq1 (i:Int) with ⟨d1,d2⟩ | ⟨k,hk,d1,d2⟩
   ·rw [d1] at fQ
    have hc:K.contains (i:Int) = true:=by
     cases e:K.contains (i:Int) with
     | true=>rfl
     | false=>exact absurd ((hno e _ b2).1 (List.getElem_mem hj)) fun hm=>d2 _ hm b2
    rw [hc] at sH
    have hj1:decide ((j:Int) < 0) = false:=decide_eq_false (by omega)
    have hj2:decide (0≤(j:Int)) = true:=decide_eq_true (by omega)
    refine C1.im fP (by rfl) (by rfl) ?_
    refine sW ?_
    refine C1.im fQ (by rfl) (by rfl) ?_
    simp only [tZ,↓un_u,simprocAttr,hj1,hj2]
    refine ⟨by kernel_rfl,?_⟩
    refine C2.no (fun h=>h) ?_
    simp only [tZ,↓un_u,simprocAttr,labE_u,pickX_u,G2_none,not_false_eq_true,true_and]
    refine ⟨by kernel_rfl,?_⟩
    refine C2.im (fun _=>sH) (fun _=>rfl) (by rfl) ?_
    simp only [tZ,↓un_u,simprocAttr,hwi]
    refine ⟨i + 1,by omega,by omega,?_⟩
    exact .oA [(28700,some 28700),(32796,some 32796)] []
   ·rw [d1] at fQ
    have hI:=c_ref01_Ints p.rows[j] q.rows[k] (by have:=hp1.smy.2 _ (List.getElem_mem hj);omega)
    have hj1:decide ((j:Int) < 0) = false:=decide_eq_false (by omega)
    have hj2:decide (0≤(j:Int)) = true:=decide_eq_true (by omega)
    have hk1:decide ((k:Int) < 0) = false:=decide_eq_false (by omega)
    have hk2:decide (0≤(k:Int)) = true:=decide_eq_true (by omega)
    have hor:(!eqRow p.rows[j] q.rows[k] && !K.contains (i:Int)) = false:=by
     cases e:K.contains (i:Int) with
     | true=>simp
     | false=>
       have h5:=asc_key hq1.asc ((hno e _ b2).1 (List.getElem_mem hj)) (List.getElem_mem hk) (b2.trans d2.symm)
       rw [eqRow_iff.2 h5];rfl
    refine C1.im fP (by rfl) (by rfl) ?_
    refine sW ?_
    refine C1.im fQ (by rfl) (by rfl) ?_
    simp only [tZ,↓un_u,simprocAttr,hj1,hj2,hk1,hk2,Int.toNat_natCast,getD_mapT hj,getD_mapT hk]
    refine ⟨by kernel_rfl,by omega,by omega,?_⟩
    refine C2.im (fun _=>hI) (fun _=>rfl) (by rfl) ?_
    refine sW ?_
    refine ⟨by kernel_rfl,?_⟩
    refine C2.im (fun _=>sH) (fun _=>rfl) (by rfl) ?_
    simp only [tZ,↓un_u,simprocAttr,hor,hwi]
    refine ⟨i + 1,by omega,by omega,?_⟩
    exact .oA [(28700,some 28700),(32796,some 32796)] []
 ·refine C1.im c_law04_awake (by rfl) (by rfl) ?_
  refine sW ?_
  exact .oA [] []
end Go.Proofs
