/- A part of the proof: C19 C20. -/
import Derived.WalkKit
import Derived.Still
import Derived.MapKept
import GoSem.Builtin.Cap
import Derived.Laws.Externs
import GoSem.Extern.SlicesOverlaps
import Derived.Carry
import Derived.ProofKit
import Derived.OpenShut
import Derived.HandedShaped
import Derived.Lay
import Derived.LaidLaws
import Derived.MakeChecks
import Derived.SevenTiedAt
import Derived.Test.YtlpllebfjgflaaaGreatDoorChecked
import Derived.Test.YtlpllebfjgflaaaGreatDoorK20
set_option linter.unusedSimpArgs false
set_option linter.unusedVariables false
namespace Go.Proofs
open Go Go.TL
set_option maxRecDepth 4000
set_option maxHeartbeats 8000000
theorem zy0 (l:List UInt8) (n1 n2:Int):∃ y:Src,SmS y∧Spc Tryz.prog Ql [vL l,vI n1,vI n2] [] (srcT y) []:=by
 have hl4:(l.take 400).length≤400:=by rw [List.length_take];omega
 obtain ⟨⟨x,a1⟩,⟨⟨hX,hx6,_⟩,ha1⟩,sS⟩:=yf 6 (l.take 400) 0 hl4 (by omega) (by omega)
 dsimp only at hX hx6 ha1 sS
 obtain ⟨v,a2,v1,v2,ha2,sN⟩:=zq3 (l.take 400) a1 8 hl4 ha1 (by omega)
 have hx:=hX.ok
 have hsm:=hx.same
 have hfit:∀ r∈x.rows,0 < r.length∧r.length≤8:=fun r hr=>by
  have h1:=(QH (hx.rows r hr)).2.1
  have h2:=(jb hx.sch).nc
  omega
 by_cases e1:v = 1
 ·refine ⟨⟨x.sch,x.rows,[],n2⟩,⟨hsm.sch,hsm.wid,hsm.rows,hsm.row,by simp⟩,?_⟩
  have q1:(v == 1) = true:=beq_iff_eq.2 e1
  refine qd zB mixm (by simp) fun e _ hst=>qj ?_
  unfold za
  refine sW ?_
  refine C1.newdraw 8196 (ky l) rfl rfl ?_
  generalize l.take 400 = m at hl4 sS sN ha1 ha2 ⊢
  refine sW ?_
  refine C1.draw 8196 m 0 _ sS rfl rfl rfl ?_
  refine sW ?_
  refine C1.draw 8196 m a1 _ sN rfl rfl rfl ?_
  simp only [tZ,↓un_u,simprocAttr,q1]
  exact .oA [] []
 have q1:(v == 1) = false:=beq_eq_false_iff_ne.2 e1
 by_cases e2:v = 2
 ·refine ⟨⟨x.sch,x.rows,[n2],x.ver⟩,⟨hsm.sch,hsm.wid,hsm.rows,hsm.row,by simp⟩,?_⟩
  have q2:(v == 2) = true:=beq_iff_eq.2 e2
  refine qd zB mixm (by simp) fun e _ hst=>qj ?_
  unfold za
  refine sW ?_
  refine C1.newdraw 8196 (ky l) rfl rfl ?_
  generalize l.take 400 = m at hl4 sS sN ha1 ha2 ⊢
  refine sW ?_
  refine C1.draw 8196 m 0 _ sS rfl rfl rfl ?_
  refine sW ?_
  refine C1.draw 8196 m a1 _ sN rfl rfl rfl ?_
  simp only [tZ,↓un_u,simprocAttr,q1,q2]
  repeat (first | refine ⟨by omega,?_⟩ | refine ⟨by kernel_rfl,?_⟩)
  exact .oA [] [32784]
 have q2:(v == 2) = false:=beq_eq_false_iff_ne.2 e2
 by_cases e3:v = 3
 ·have q3:(v == 3) = true:=beq_iff_eq.2 e3
  by_cases h0:x.rows.length = 0
  ·refine ⟨⟨x.sch,x.rows,[],x.ver⟩,⟨hsm.sch,hsm.wid,hsm.rows,hsm.row,by simp⟩,?_⟩
   have e0:decide ((x.rows.length:Int) > 0) = false:=decide_eq_false (by omega)
   refine qd zB mixm (by simp) fun e _ hst=>qj ?_
   unfold za
   refine sW ?_
   refine C1.newdraw 8196 (ky l) rfl rfl ?_
   generalize l.take 400 = m at hl4 sS sN ha1 ha2 ⊢
   refine sW ?_
   refine C1.draw 8196 m 0 _ sS rfl rfl rfl ?_
   refine sW ?_
   refine C1.draw 8196 m a1 _ sN rfl rfl rfl ?_
   simp only [tZ,↓un_u,simprocAttr,q1,q2,q3,e0]
   exact .oA [] []
  ·have e0:decide ((x.rows.length:Int) > 0) = true:=decide_eq_true (by omega)
   have hM:=qu3 n1 (m:=(x.rows.length:Int)) (by omega)
   have sM:=JM n1 (x.rows.length:Int) (by omega)
   obtain ⟨k,hk⟩:=Int.eq_ofNat_of_zero_le hM.1
   rw [hk] at sM hM
   have hk2:k < x.rows.length:=by omega
   obtain ⟨r1,r2⟩:=hfit _ (List.getElem_mem hk2)
   have hQ:=qu3 (IntKind.i64.wrap (n1.tdiv 7)) (m:=(x.rows[k].length:Int)) (by omega)
   have sQ:=JM (IntKind.i64.wrap (n1.tdiv 7)) (x.rows[k].length:Int) (by omega)
   obtain ⟨j,hj⟩:=Int.eq_ofNat_of_zero_le hQ.1
   rw [hj] at sQ hQ
   have hj2:j < x.rows[k].length:=by omega
   refine ⟨⟨x.sch,x.rows.take k ++ x.rows[k].set j n2 :: x.rows.drop (k + 1),[],x.ver⟩,⟨hsm.sch,hsm.wid,by simp;omega,fun r hr=>?_,by simp⟩,?_⟩
   ·rcases List.mem_append.1 hr with h | h
    ·have:=hsm.row r (List.mem_of_mem_take h);omega
    ·rcases List.mem_cons.1 h with h | h
     ·rw [h,List.length_set];omega
     ·have:=hsm.row r (List.mem_of_mem_drop h);omega
   refine we [18] zB mixm (by simp) fun e _ hst=>qj ?_
   unfold za
   simp only [QM,List.contains_cons,List.contains_nil,Nat.reduceBEq,Bool.or_false,Bool.or_true,Bool.true_or,Bool.false_or,cond_true,cond_false]
   refine sW ?_
   refine C1.newdraw 8196 (ky l) rfl rfl ?_
   generalize l.take 400 = m at hl4 sS sN ha1 ha2 ⊢
   refine sW ?_
   refine C1.draw 8196 m 0 _ sS rfl rfl rfl ?_
   refine sW ?_
   refine C1.draw 8196 m a1 _ sN rfl rfl rfl ?_
   simp only [tZ,↓un_u,simprocAttr,q1,q2,q3,e0]
   refine C1.im sM (by rfl) (by rfl) ?_
   simp only [tZ,↓un_u,simprocAttr,Int.toNat_natCast,qe hk2]
   refine ⟨by omega,by omega,?_⟩
   refine C1.im sQ (by rfl) (by rfl) ?_
   have hws:=qh (i:=k) (by omega)
   simp only [tZ,↓un_u,simprocAttr,Int.toNat_natCast,qe hj2,hws,show ∀ a b:Int,repl (vI a) 0 (vI b) = vI b from fun _ _=>rfl]
   have hc1:cutT 0 (k:Int) (x.rows.map vIs) = (x.rows.take k).map vIs:=by rw [qc4,qR6]
   have hc2:cutT ((k + 1:Nat):Int) (x.rows.length:Int) (x.rows.map vIs) = (x.rows.drop (k + 1)).map vIs:=by rw [qc4,zv1]
   have hc3:((x.rows.take k).map vIs).length = k:=by rw [List.length_map,List.length_take];omega
   have hc4:((x.rows.drop (k + 1)).map vIs).length = x.rows.length - (k + 1):=by rw [List.length_map,List.length_drop]
   rw [hc1,hc2,hc3,hc4,← List.map_set]
   refine ⟨by omega,by omega,by omega,by omega,by rw [List.length_map,List.length_set],by omega,by omega,by omega,by kernel_rfl,?_⟩
   have hRl:(x.rows.take k ++ x.rows[k].set j n2 :: x.rows.drop (k + 1)).length = k + 1 + (x.rows.length - (k + 1)):=by rw [List.length_append,List.length_cons,List.length_take,List.length_drop];omega
   have hsl:(x.rows[k].set j n2).length = x.rows[k].length:=List.length_set
   refine zP6 [(4096,.arr 5 [srcT src0] false),(12296,.arr 5 [.agg [.sl 2 (x.sch.lists.map cdlT),.sl 7 (x.sch.cols.map colT),.asl 57360 (k + 1 + (x.rows.length - (k + 1))),.v (.slice none 0 0),vI x.ver]] false),(57360,.arr 1 ((x.rows.take k ++ x.rows[k].set j n2 :: x.rows.drop (k + 1)).map vIs) false)] ?_ ?_
   ·rw [List.map_append,List.map_cons,List.append_assoc]
    refine .of [(4096,some 4096),(12296,some 12296),(57360,some 57360)] [49172] rfl (by first | rfl | (rw [hst];rfl)) ?_ ?_
    all_goals (try simp only [tL,simprocAttr,List.map_append,List.map_cons,List.map_nil,List.cons_append,List.nil_append])
    all_goals (try (repeat' (first | exact qT | (apply zh;intro _;exact ⟨rfl,rfl⟩) | (apply qt;intro _;exact ⟨rfl,rfl⟩) | with_reducible apply qS | with_reducible refine qW ⟨rfl,rfl⟩ ?_ | exact zi | with_reducible apply qJ | with_reducible refine qD ⟨rfl,rfl,?_⟩ ?_ | with_reducible apply And.intro | exact qK rfl | exact qK (by assumption) | (refine ⟨⟨?_,rfl,?_,rfl,?_⟩,trivial⟩ <;> first | (simp;done) | (apply qt;intro _;exact ⟨rfl,rfl⟩)) | trivial | rfl | (rw [qh (by omega)]) | omega)))
    done
   refine sW ?_
   refine ⟨by rw [List.length_take,List.length_drop];omega,?_⟩
   generalize x.rows.take k ++ x.rows[k].set j n2 :: x.rows.drop (k + 1) = R at hRl ⊢
   exact .oA [] [57360]
 have q3:(v == 3) = false:=beq_eq_false_iff_ne.2 e3
 by_cases e4:v = 4
 ·refine ⟨⟨x.sch,x.rows,[1 + modI n1 60,1 + modI n2 60],x.ver⟩,⟨hsm.sch,hsm.wid,hsm.rows,hsm.row,by simp⟩,?_⟩
  have q4:(v == 4) = true:=beq_iff_eq.2 e4
  have hM1:=qu3 n1 (m:=60) (by decide)
  have hM2:=qu3 n2 (m:=60) (by decide)
  have w1:IntKind.i64.wrap (1 + modI n1 60) = 1 + modI n1 60:=IntWalk.i64_in _ (by omega)
  have w2:IntKind.i64.wrap (1 + modI n2 60) = 1 + modI n2 60:=IntWalk.i64_in _ (by omega)
  have sM1:=JM n1 60 (by decide)
  have sM2:=JM n2 60 (by decide)
  refine qd zB mixm (by simp) fun e _ hst=>qj ?_
  unfold za
  refine sW ?_
  refine C1.newdraw 8196 (ky l) rfl rfl ?_
  generalize l.take 400 = m at hl4 sS sN ha1 ha2 ⊢
  refine sW ?_
  refine C1.draw 8196 m 0 _ sS rfl rfl rfl ?_
  refine sW ?_
  refine C1.draw 8196 m a1 _ sN rfl rfl rfl ?_
  simp only [tZ,↓un_u,simprocAttr,q1,q2,q3,q4]
  refine C1.im sM1 (by rfl) (by rfl) ?_
  simp only [tZ,↓un_u,simprocAttr,w1]
  refine C1.im sM2 (by rfl) (by rfl) ?_
  simp only [tZ,↓un_u,simprocAttr,w1,w2]
  repeat (first | refine ⟨by omega,?_⟩ | refine ⟨by kernel_rfl,?_⟩)
  exact .oA [] [65560]
 have q4:(v == 4) = false:=beq_eq_false_iff_ne.2 e4
 by_cases e5:v = 5
 ·refine ⟨⟨x.sch,x.rows,[],300⟩,⟨hsm.sch,hsm.wid,hsm.rows,hsm.row,by simp⟩,?_⟩
  have q5:(v == 5) = true:=beq_iff_eq.2 e5
  refine qd zB mixm (by simp) fun e _ hst=>qj ?_
  unfold za
  refine sW ?_
  refine C1.newdraw 8196 (ky l) rfl rfl ?_
  generalize l.take 400 = m at hl4 sS sN ha1 ha2 ⊢
  refine sW ?_
  refine C1.draw 8196 m 0 _ sS rfl rfl rfl ?_
  refine sW ?_
  refine C1.draw 8196 m a1 _ sN rfl rfl rfl ?_
  simp only [tZ,↓un_u,simprocAttr,q1,q2,q3,q4,q5]
  exact .oA [] []
 have q5:(v == 5) = false:=beq_eq_false_iff_ne.2 e5
 ·refine ⟨⟨x.sch,x.rows,[],x.ver⟩,⟨hsm.sch,hsm.wid,hsm.rows,hsm.row,by simp⟩,?_⟩
  refine qd zB mixm (by simp) fun e _ hst=>qj ?_
  unfold za
  refine sW ?_
  refine C1.newdraw 8196 (ky l) rfl rfl ?_
  generalize l.take 400 = m at hl4 sS sN ha1 ha2 ⊢
  refine sW ?_
  refine C1.draw 8196 m 0 _ sS rfl rfl rfl ?_
  refine sW ?_
  refine C1.draw 8196 m a1 _ sN rfl rfl rfl ?_
  simp only [tZ,↓un_u,simprocAttr,q1,q2,q3,q4,q5]
  exact .oA [] []
theorem qE6 {s:Src} (d:Edt):SmS (jm s d):=by
 unfold jm
 split
 ·exact zq2
 ·rename_i h
  have he:jw s d = 0:=Classical.byContradiction h
  have hb:srcB s = true:=by
   cases e:srcB s with
   | true=>rfl
   | false=>rw [jw,if_pos (.inl e)] at he;cases he
  have hok:=WX.1 hb
  have hsm:=hok.same
  have hS:jm s d = ⟨s.sch,Qi s d,if d.kind = 4 then putI s.gone d.id else s.gone,s.ver + 1⟩:=by rw [jm,if_neg (by rw [he];simp)]
  have hnr:=hok.nr
  have hng:=hok.ng
  have hpl:=qT6 s.rows d.row
  have hdl:(JY s.rows d.id).length≤s.rows.length:=List.length_filter_le _ _
  have hil:=zx1 s.gone d.id
  rw [← hS]
  rcases qJ4 hok he with ⟨_,q2,_,q4⟩ | ⟨_,_,q4⟩ | ⟨_,_,_,q4⟩
  ·rw [q4]
   refine ⟨hsm.sch,hsm.wid,by dsimp only;omega,fun r hr=>?_,by dsimp only;omega⟩
   rcases (Wr hok.asc).1 hr with e | ⟨e,_⟩
   ·rw [e,(QH q2).2.1];have:=(jb hok.sch).nc;omega
   ·exact hsm.row r e
  ·rw [q4]
   exact ⟨hsm.sch,hsm.wid,by dsimp only;omega,fun r hr=>hsm.row r (List.mem_filter.1 hr).1,by dsimp only;omega⟩
  ·rw [q4]
   exact ⟨hsm.sch,hsm.wid,by dsimp only;omega,fun r hr=>hsm.row r (List.mem_filter.1 hr).1,by dsimp only;omega⟩
end Go.Proofs
namespace Go.Proofs
open Go Go.TL
set_option maxRecDepth 4000
set_option maxHeartbeats 8000000
theorem SmS.sm {s:Src} (h:SmS s):qJ1 s:=⟨h.sch,h.row⟩
theorem KM (l:List UInt8) (raw:Edt) (n1 n2:Int) (hr1:raw.row.length < 4611686018427387904) (hr2:idOk raw.id):Spc Tryz.prog yD [vL l,edtT raw,vI n1,vI n2] [] (vB true) []:=by
 have hl4:(l.take 400).length≤400:=by rw [List.length_take];omega
 obtain ⟨⟨x,a1⟩,⟨hX,ha1⟩,sS⟩:=KL 6 (l.take 400) 0 hl4 (by omega) (by omega)
 dsimp only at hX ha1 sS
 have hx:=hX.ok
 have hnr:=hx.nr
 have hE:=fun a ha=>Yb x hX.sch (fun r hr=>jx (hx.rows r hr)) (fun r hr=>zx2 (hx.rows r hr)) (by omega) (l.take 400) a hl4 ha
 obtain ⟨⟨d1,a2⟩,⟨g1,ha2⟩,s1⟩:=hE a1 ha1
 dsimp only at g1 ha2 s1
 obtain ⟨⟨d2,a3⟩,⟨g2,ha3⟩,s2⟩:=hE a2 ha2
 dsimp only at g2 ha3 s2
 obtain ⟨⟨d3,a4⟩,⟨g3,ha4⟩,s3⟩:=hE a3 ha3
 dsimp only at g3 ha4 s3
 obtain ⟨⟨d4,a5⟩,⟨g4,ha5⟩,s4⟩:=hE a4 ha4
 dsimp only at g4 ha5 s4
 obtain ⟨y,hy,sY⟩:=zy0 l n1 n2
 have hD:∀ {d},DrE x d→d.row.length < 4611686018427387904∧idOk d.id:=fun h=>⟨by have:=h.len;omega,by have:=h.id;unfold idOk;omega⟩
 obtain ⟨L,hL⟩:∃ L,L = [raw,d1,d2,d3,d4]:=⟨_,rfl⟩
 have hL5:L.length = 5:=by rw [hL];rfl
 have hLd:∀ d∈L,d.row.length < 4611686018427387904∧idOk d.id:=fun d hd=>by
  rw [hL] at hd
  simp only [List.mem_cons,List.not_mem_nil,or_false] at hd
  rcases hd with e | e | e | e | e
  ·rw [e];exact ⟨hr1,hr2⟩
  ·rw [e];exact hD g1
  ·rw [e];exact hD g2
  ·rw [e];exact hD g3
  ·rw [e];exact hD g4
 clear hE
 refine qd JO mixm (by simp) fun e _ hst=>qj ?_
 unfold jI
 refine sW ?_
 refine C1.newdraw 8196 (ky l) rfl rfl ?_
 generalize l.take 400 = m at hl4 sS s1 s2 s3 s4 ha1 ha2 ha3 ha4 ha5 ⊢
 refine sW ?_
 refine C1.draw 8196 m 0 _ sS rfl rfl rfl ?_
 refine sW ?_
 refine C1.draw 8196 m a1 _ s1 rfl rfl rfl ?_
 refine sW ?_
 refine C1.draw 8196 m a2 _ s2 rfl rfl rfl ?_
 refine sW ?_
 refine C1.draw 8196 m a3 _ s3 rfl rfl rfl ?_
 refine sW ?_
 refine C1.draw 8196 m a4 _ s4 rfl rfl rfl ?_
 refine sW ?_
 refine ⟨by kernel_rfl,?_⟩
 refine C1.im sY (by rfl) (by rfl) ?_
 refine sW ?_
 refine qy mixm (α:=Nat×Src) [47] (fun q=>q.1≤5∧SmS q.2) (fun q=>[(47,vI q.1)]) (fun q=>[(12296,.arr 5 [srcT q.2] false),(20496,.arr 5 [srcT y] false),(16436,.arr 3 (L.map edtT) false)]) (fun q=>5 - q.1) (0,x) ⟨by simp,hx.same⟩ ?_ fun q hq=>?_
 ·rw [hL]
  exact .oA [(12296,some 12296),(20496,some 20496),(16436,some 16436)] []
 clear hx hnr hX
 clear sS s1 s2 s3 s4 g1 g2 g3 g4 hD
 obtain ⟨i,z⟩:=q
 obtain ⟨i1,hz⟩:=hq
 dsimp only at i1 hz
 refine sD ?_
 refine ⟨fun h2=>?_,fun h2=>?_⟩
 ·have hi2:i < L.length:=by omega
  have hwi:=qh (i:=i) (by omega)
  obtain ⟨q1,q2⟩:=hLd _ (List.getElem_mem hi2)
  simp only [tZ,↓un_u,simprocAttr,Int.toNat_natCast,qe hi2]
  generalize L[i] = d at q1 q2 ⊢
  refine ⟨by omega,by omega,?_⟩
  obtain ⟨V,hV⟩:∃ V,V = [z,y]:=⟨_,rfl⟩
  have hV2:V.length = 2:=by rw [hV];rfl
  have hVs:∀ s∈V,SmS s:=fun s hs=>by
   rw [hV] at hs
   simp only [List.mem_cons,List.not_mem_nil,or_false] at hs
   rcases hs with e | e
   ·rw [e];exact hz
   ·rw [e];exact hy
  refine qy mixm (α:=Nat) [55] (fun j=>j≤2) (fun j=>[(55,vI j)]) (fun j=>[(12296,.arr 5 [srcT z] false),(20496,.arr 5 [srcT y] false),(16436,.arr 3 (L.map edtT) false),(32776,.arr 3 [edtT d] false),(36872,.arr 5 (V.map srcT) false)]) (fun j=>2 - j) 0 (by omega) ?_ fun j hj=>?_
  ·rw [hV]
   exact .oA [(12296,some 12296),(20496,some 20496),(16436,some 16436),(32776,some 32776),(36872,some 36872)] []
  refine sD ?_
  refine ⟨fun h3=>?_,fun h3=>?_⟩
  ·have hj2:j < V.length:=by omega
   have hwj:=qh (i:=j) (by omega)
   have hs:=hVs _ (List.getElem_mem hj2)
   simp only [tZ,↓un_u,simprocAttr,Int.toNat_natCast,qe hj2]
   generalize V[j] = s at hs ⊢
   refine ⟨by omega,by omega,?_⟩
   refine C1.im (QI s d hs.sm q1 q2) (by rfl) (by rfl) ?_
   refine sW ?_
   refine C1.im (Ws s d hs.sm q1) (by rfl) (by rfl) ?_
   simp only [tZ,↓un_u,simprocAttr,bne_self_eq_false,Bool.false_or]
   refine C2.im (fun _=>Ya _ (qE6 d)) (fun _=>rfl) (by rfl) ?_
   simp only [tZ,↓un_u,simprocAttr,bne_self_eq_false,Bool.false_or,hwj]
   refine ⟨j + 1,by omega,by omega,?_⟩
   exact .oA [(12296,some 12296),(20496,some 20496),(16436,some 16436),(32776,some 32776),(36872,some 36872)] []
  ·refine C1.im (Ws z d hz.sm q1) (by rfl) (by rfl) ?_
   simp only [tZ,↓un_u,simprocAttr,beq_iff_eq,beq_eq_false_iff_ne,hwi]
   refine ⟨fun h4=>?_,fun h4=>?_⟩
   ·refine ⟨(i + 1,jm z d),⟨by dsimp only;omega,qE6 d⟩,by dsimp only;omega,?_⟩
    exact .oA [(12296,some 12296),(20496,some 20496),(16436,some 16436)] []
   ·refine ⟨(i + 1,z),⟨by dsimp only;omega,hz⟩,by dsimp only;omega,?_⟩
    exact .oA [(12296,some 12296),(20496,some 20496),(16436,some 16436)] []
 ·refine C1.im qu1 (by rfl) (by rfl) ?_
  refine sW ?_
  exact .oA [] []
end Go.Proofs
