/- A part of the proof: trees of Go values, short forms, contracts. -/
import Derived.WalkKit
import Derived.Still
import Derived.MapKept
import GoSem.Builtin.Cap
import Derived.Laws.Externs
import GoSem.Extern.SlicesOverlaps
import Derived.Carry
import Derived.ProofKit
import Derived.OpenShut
import Derived.HandedShaped
import Derived.Lay
import Derived.LaidLaws
import Derived.MakeChecks
import Derived.SevenTiedAt
import Derived.Test.YtiddpnhnaooohaaGreatDoorChecked
import Derived.Test.YtiddpnhnaooohaaGreatDoorK22
set_option linter.unusedSimpArgs false
set_option linter.unusedVariables false
namespace Go.Proofs
open Go Go.TL
set_option maxRecDepth 4000
set_option maxHeartbeats 8000000
def blkR (c:Col) (lev v:Int):Int×Int×Bool:=
 if lev = 0 then (c.low,c.high,v == 0)
 else if v = qY∨inB v (-2000000) 2000000 = false∨v.tmod (qE c lev)≠0 then (0,0,false)
 else (max c.low v,min c.high (v + qE c lev - 1),decide (max c.low v≤min c.high (v + qE c lev - 1)))
theorem qm5 (c:Col) (lev v:Int) (hl:lev = 0∨(1≤lev∧lev≤c.widths.length∧c.widths.length≤4∧1≤qE c lev∧qE c lev≤1000000)):Spc Tryz.prog QX [colT c,vI lev,vI v] [] (.tup [vI (blkR c lev v).1,vI (blkR c lev v).2.1,vB (blkR c lev v).2.2]) []:=by
 refine qd qK8 mixm (by simp) fun e _ hst=>qj ?_
 unfold JD
 simp only [tZ,↓un_u,simprocAttr,beq_iff_eq,beq_eq_false_iff_ne]
 refine ⟨fun h=>?_,fun h=>?_⟩
 ·rw [blkR,if_pos h]
  refine ⟨by kernel_rfl,?_⟩
  exact .oA [] []
 obtain ⟨l1,l2,l3,l4,l5⟩:=hl.resolve_left h
 rw [blkR,if_neg h]
 refine C1.im (KW c lev ⟨l1,l2⟩ (by omega)) (by rfl) (by rfl) ?_
 generalize qE c lev = w at l4 l5 ⊢
 refine sW ?_
 refine C2.im (fun _=>jb v (-2000000) 2000000) (fun _=>rfl) (by rfl) ?_
 have hm:qY = -1099511627776:=rfl
 have hw1:IntKind.i64.wrap (v.tmod w) = v.tmod w:=IntWalk.i64_in _ (by have:=Int.tmod_lt_of_pos v (show 0 < w by omega);have:=Int.lt_tmod_of_pos v (show 0 < w by omega);omega)
 simp only [tZ,↓un_u,simprocAttr,hw1]
 have hC:(v = qY∨inB v (-2000000) 2000000 = false∨v.tmod w≠0)↔((v == -1099511627776 || !inB v (-2000000) 2000000 || v.tmod w != 0) = true):=by
  rw [Bool.or_eq_true,Bool.or_eq_true,beq_iff_eq,Bool.not_eq_true',bne_iff_ne,or_assoc];rfl
 refine ⟨fun _=>by omega,fun h2=>?_,fun h2=>?_⟩
 ·rw [if_pos (hC.2 h2)]
  exact .oA [] []
 ·have hn:¬ (v = qY∨inB v (-2000000) 2000000 = false∨v.tmod w≠0):=fun k=>by rw [hC.1 k] at h2;cases h2
  rw [if_neg hn]
  have hb:inB v (-2000000) 2000000 = true:=by
   cases e:inB v (-2000000) 2000000 with
   | true=>rfl
   | false=>exact absurd (.inr (.inl e)) hn
  rw [jA] at hb
  have hw2:IntKind.i64.wrap (v + w) = v + w:=IntWalk.i64_in _ (by omega)
  have hw3:IntKind.i64.wrap (v + w - 1) = v + w - 1:=IntWalk.i64_in _ (by omega)
  refine ⟨by kernel_rfl,?_⟩
  simp only [tZ,↓un_u,simprocAttr,hw2,hw3,qQ9,zA5]
  exact .oA [] []
def canR (s:Sch) (c lev v:Int):Bool:=
 if inB lev 0 (finI s c) = false then false
 else if (qg s c.toNat).kind = 2 then (qD s c.toNat).any fun x=>qr s c lev x == v
 else if lev > 0∧v = qY then (qg s c.toNat).opt else (blkR (qg s c.toNat) lev v).2.2
theorem zq0 (s:Sch) (hs:Qp s) (c lev v:Int):Spc Tryz.prog qb6 [schT s,vI c,vI lev,vI v] [] (vB (canR s c lev v)) []:=by
 refine qd zg9 mixm (by simp) fun e _ hst=>qj ?_
 unfold WX
 refine sW ?_
 refine C1.im (Qg s hs c) (by rfl) (by rfl) ?_
 refine sW ?_
 refine C1.im (jb lev 0 (finI s c)) (by rfl) (by rfl) ?_
 simp only [tZ,↓un_u,simprocAttr,Bool.not_eq_true',Bool.not_eq_false']
 refine ⟨fun h=>?_,fun h=>?_⟩
 ·rw [canR,if_pos h]
  exact .oA [] []
 have hin:=jA.1 h
 obtain ⟨hE,c1,c2,hfin⟩:=kV (s:=s) (c:=c) (by omega)
 obtain ⟨i,rfl⟩:=Int.eq_ofNat_of_zero_le (show 0≤c by omega)
 have hil:i < s.cols.length:=by omega
 have hok:=qJ hE
 have hR:canR s i lev v = if (qg s i).kind = 2 then (qD s i).any fun x=>qr s i lev x == v else if lev > 0∧v = qY then (qg s i).opt else (blkR (qg s i) lev v).2.2:=by
  rw [canR,if_neg (by rw [h];simp),Int.toNat_natCast]
 have hat:qg s i = s.cols[i]:=by rw [qg,qh hil]
 have hLf:=fun h2=>Qh s hok i hil h2
 have hLl:=fun h2=>Zj hok hil h2
 have hw:=fun h2 l=>hok.wid hil (by omega) h2 (lev:=l)
 rw [hR]
 rw [Int.toNat_natCast] at hfin
 rw [hat] at hLf hLl hw hfin ⊢
 generalize finI s i = F at hin hfin
 simp only [tZ,↓un_u,simprocAttr,Int.toNat_natCast,qe hil,beq_iff_eq,beq_eq_false_iff_ne]
 generalize s.cols[i] = x at hLf hLl hw hfin ⊢
 refine ⟨by omega,fun h2=>?_,fun h2=>?_⟩
 ·rw [if_pos h2]
  have hLl:=hLl h2
  refine C1.im (hLf h2) (by rfl) (by rfl) ?_
  generalize qD s i = L at hLl ⊢
  refine sW ?_
  refine qw mixm (α:=Nat) [11] (fun n=>n≤L.length∧((L.take n).any fun x=>qr s i lev x == v) = false) (fun n=>[(11,vI n)]) (fun n=>[(4096,.arr 2 [schT s] false)]) (fun n=>L.length - n) 0 ⟨by omega,rfl⟩ ?_ fun n hn=>?_
  ·exact .oA [(4096,some 4096)] []
  refine sD ?_
  refine ⟨fun h5=>?_,fun h5=>?_⟩
  ·have hn2:n < L.length:=by omega
   have hwn:=qk (i:=n) (by omega)
   have hC:=wg s hs i lev L[n]
   simp only [tZ,↓un_u,simprocAttr,Int.toNat_natCast,qe hn2]
   refine ⟨by omega,?_⟩
   refine C1.im hC (by rfl) (by rfl) ?_
   simp only [tZ,↓un_u,simprocAttr,hwn]
   refine ⟨by kernel_rfl,fun h6=>?_,fun h6=>?_⟩
   ·rw [qs9 hn2 h6]
    exact .oA [] []
   ·refine ⟨n + 1,⟨by omega,jB hn2 hn.2 h6⟩,by omega,?_⟩
    exact .oA [(4096,some 4096)] []
  ·have hnl:n = L.length:=by omega
   subst hnl
   have hn2:=hn.2
   rw [List.take_length] at hn2
   rw [hn2]
   exact .oA [] []
 ·rw [if_neg h2]
  rw [if_neg h2] at hfin
  have hB:=qm5 x lev v (by
   rcases Int.lt_or_le 0 lev with k | k
   ·right
    obtain ⟨w1,w2,_,w4,_⟩:=hw h2 lev (by omega)
    exact ⟨by omega,by omega,w4,w1,w2⟩
   ·left;omega)
  simp only [tZ,↓un_u,simprocAttr,tD,beq_iff_eq,beq_eq_false_iff_ne,gt_iff_lt]
  refine ⟨fun h5=>?_,fun h5=>?_⟩
  ·rw [if_pos (show 0 < lev∧v = qY from h5)]
   exact .oA [] []
  ·rw [if_neg (show ¬ (0 < lev∧v = qY) from fun k=>by
    have:qY = -1099511627776:=rfl
    omega)]
   refine C1.im hB (by rfl) (by rfl) ?_
   refine sW ?_
   repeat (first | refine ⟨by omega,?_⟩ | refine ⟨by kernel_rfl,?_⟩)
   exact .oA [] []
def zk1 (s:Sch) (i:Nat) (lev v:Int):Int:=
 if (qg s i).kind = 2 then ((qD s i).find? fun x=>qr s i lev x == v).getD (-1)
 else if lev > 0∧v = qY then v else (blkR (qg s i) lev v).1
theorem zk2 (s:Sch) (hE:schE s = 0) (i:Nat) (hi:i < s.cols.length) (h0:0 < i) (lev v:Int) (hl:0≤lev∧lev≤finI s i):Spc Tryz.prog WT [schT s,vI i,vI lev,vI v] [] (vI (zk1 s i lev v)) []:=by
 have hok:=qJ hE
 have hs:=hok.sm
 have hat:qg s i = s.cols[i]:=by rw [qg,qh hi]
 have hR:zk1 s i lev v = if (qg s i).kind = 2 then ((qD s i).find? fun x=>qr s i lev x == v).getD (-1) else if lev > 0∧v = qY then v else (blkR (qg s i) lev v).1:=rfl
 have hLf:=fun h2=>Qh s hok i hi h2
 have hLl:=fun h2=>Zj hok hi h2
 have hw:=fun h2 l=>hok.wid hi h0 h2 (lev:=l)
 have hfin:finI s i = if (qg s i).kind = 2 then zk (qG s i) - 1 else (qg s i).widths.length:=by rw [finI,if_neg (by rw [hE];omega),Int.toNat_natCast]
 rw [hR]
 rw [hat] at hLf hLl hw hfin ⊢
 generalize finI s i = F at hl hfin
 refine qd qV1 mixm (by simp) fun e _ hst=>qj ?_
 unfold KQ
 simp only [tZ,↓un_u,simprocAttr,Int.toNat_natCast,qe hi,beq_iff_eq,beq_eq_false_iff_ne]
 generalize s.cols[i] = x at hLf hLl hw hfin ⊢
 refine ⟨by omega,fun h2=>?_,fun h2=>?_⟩
 ·rw [if_pos h2]
  have hLl:=hLl h2
  refine C1.im (hLf h2) (by rfl) (by rfl) ?_
  generalize qD s i = L at hLl ⊢
  refine sW ?_
  refine qw mixm (α:=Nat) [11] (fun n=>n≤L.length∧((L.take n).any fun x=>qr s i lev x == v) = false) (fun n=>[(11,vI n)]) (fun n=>[(4096,.arr 2 [schT s] false)]) (fun n=>L.length - n) 0 ⟨by omega,rfl⟩ ?_ fun n hn=>?_
  ·exact .oA [(4096,some 4096)] []
  refine sD ?_
  refine ⟨fun h5=>?_,fun h5=>?_⟩
  ·have hn2:n < L.length:=by omega
   have hwn:=qk (i:=n) (by omega)
   have hC:=wg s hs i lev L[n]
   simp only [tZ,↓un_u,simprocAttr,Int.toNat_natCast,qe hn2]
   refine ⟨by omega,?_⟩
   refine C1.im hC (by rfl) (by rfl) ?_
   simp only [tZ,↓un_u,simprocAttr,hwn,Int.toNat_natCast,qe hn2]
   refine ⟨by kernel_rfl,fun h6=>?_,fun h6=>?_⟩
   ·rw [jc4 (p:=fun x=>qr s i lev x == v) hn2 hn.2 h6,Option.getD_some]
    repeat (first | refine ⟨by omega,?_⟩ | refine ⟨by kernel_rfl,?_⟩)
    exact .oA [] []
   ·refine ⟨n + 1,⟨by omega,jB hn2 hn.2 h6⟩,by omega,?_⟩
    exact .oA [(4096,some 4096)] []
  ·have hnl:n = L.length:=by omega
   subst hnl
   have hn2:=hn.2
   rw [List.take_length] at hn2
   rw [qQ0 hn2]
   exact .oA [] []
 ·rw [if_neg h2]
  rw [if_neg h2] at hfin
  have hB:=qm5 x lev v (by
   rcases Int.lt_or_le 0 lev with k | k
   ·right
    obtain ⟨w1,w2,_,w4,_⟩:=hw h2 lev (by omega)
    exact ⟨by omega,by omega,w4,w1,w2⟩
   ·left;omega)
  simp only [tZ,↓un_u,simprocAttr,tD,beq_iff_eq,beq_eq_false_iff_ne,gt_iff_lt]
  refine ⟨fun h5=>?_,fun h5=>?_⟩
  ·rw [if_pos (show 0 < lev∧v = qY from h5)]
   exact .oA [] []
  ·rw [if_neg (show ¬ (0 < lev∧v = qY) from fun k=>by
    have:qY = -1099511627776:=rfl
    omega)]
   refine C1.im hB (by rfl) (by rfl) ?_
   refine sW ?_
   repeat (first | refine ⟨by omega,?_⟩ | refine ⟨by kernel_rfl,?_⟩)
   exact .oA [] []
end Go.Proofs
namespace Go.Proofs
open Go Go.TL
set_option maxRecDepth 4000
set_option maxHeartbeats 8000000
theorem jf9 {l:CodL} (h:lstE l = 0) {c:Nat} (hc:c < l.codes.length):upN l.codes 0 c = 0:=by
 obtain ⟨hp,h1,h2⟩:=zc h
 obtain ⟨u1,u2⟩:=zA6 hp (v:=0) c hc (by omega)
 refine Classical.byContradiction fun hne=>?_
 have hlt:upN l.codes 0 c < l.codes.length:=by omega
 have hpar:0≤parC l.codes (upN l.codes 0 c):=(Yq h).kid _ (by omega) hlt
 have:=qd8 hp hlt hpar
 omega
theorem js2 {s:Sch} (hE:schE s = 0) {i:Nat} (hi:i < s.cols.length) (h0:0 < i) {a:Int} (ha:zd s i a = true):qr s i 0 a = 0:=by
 by_cases h2:(qg s i).kind = 2
 ·have hok:=qJ hE
  obtain ⟨_,d2⟩:=hok.cdl hi h2
  have hf:=qG1 hE h0 hi
  obtain ⟨c,rfl,c1,c2,c3⟩:=zp8 hE hi h0 h2 (lev:=0) (by omega) ha
  show qr s i ((0:Nat):Int) c = 0
  rw [c3,jf9 d2 c1];rfl
 ·exact qG3 hE hi h0 h2 ha
theorem jx6 {s:Sch} (hE:schE s = 0) {i:Nat} (hi:i < s.cols.length) (h0:0 < i) {lev:Nat} (hl:(lev:Int)≤finI s i) {v:Int} (hv:zd s i v = true) :
 canR s i lev (qr s i lev v) = true∧zd s i (zk1 s i lev (qr s i lev v)) = true∧qr s i lev (zk1 s i lev (qr s i lev v)) = qr s i lev v:=by
 have hok:=qJ hE
 have hin:inB lev 0 (finI s i) = true:=jA.2 (by omega)
 by_cases h2:(qg s i).kind = 2
 ·have hm:=(Yx hok hi h2).1 hv
  have hany:((qD s i).any fun x=>qr s i lev x == qr s i lev v) = true:=List.any_eq_true.2 ⟨v,hm,beq_self_eq_true _⟩
  refine ⟨by rw [canR,if_neg (by rw [hin];simp),Int.toNat_natCast,if_pos h2];exact hany,?_⟩
  rw [zk1,if_pos h2]
  cases hf:(qD s i).find? fun x=>qr s i lev x == qr s i lev v with
  | none=>
    rw [List.find?_eq_none] at hf
    exact absurd (beq_self_eq_true _) (hf v hm)
  | some x=>
    have h3:=List.mem_of_find?_eq_some hf
    have h4:=List.find?_some hf
    rw [Option.getD_some]
    exact ⟨(Yx hok hi h2).2 h3,beq_iff_eq.1 h4⟩
 ·have hm:=qm4 hE hi h0 h2
  have hlh:=hm.lh
  have hf:=hm.fin
  have hH:∀ v,(qg s i).low≤v→v≤(qg s i).high→zd s i v = true:=fun v h1 h2=>(ZU hm.kind).2 (.inr ⟨h1,h2⟩)
  have hcan:canR s i lev (qr s i lev v) = if (lev:Int) > 0∧qr s i lev v = qY then (qg s i).opt else (blkR (qg s i) lev (qr s i lev v)).2.2:=by
   rw [canR,if_neg (by rw [hin];simp),Int.toNat_natCast,if_neg h2]
  have hsom:zk1 s i lev (qr s i lev v) = if (lev:Int) > 0∧qr s i lev v = qY then qr s i lev v else (blkR (qg s i) lev (qr s i lev v)).1:=by
   rw [zk1,if_neg h2]
  rw [hcan,hsom]
  by_cases e0:lev = 0
  ·subst e0
   have z:=qG3 hE hi h0 h2 hv
   show (if (0:Int) > 0∧qr s i 0 v = qY then _ else (blkR (qg s i) 0 (qr s i 0 v)).2.2) = true∧_
   rw [if_neg (show ¬ ((0:Int) > 0∧qr s i 0 v = qY) by omega),if_neg (show ¬ (((0:Nat):Int) > 0∧qr s i ((0:Nat):Int) v = qY) by omega)]
   show (blkR (qg s i) 0 (qr s i 0 v)).2.2 = true∧zd s i (blkR (qg s i) 0 (qr s i 0 v)).1 = true∧qr s i 0 (blkR (qg s i) 0 (qr s i 0 v)).1 = qr s i 0 v
   have hl:=hH (qg s i).low (by omega) (by omega)
   have zl:=qG3 hE hi h0 h2 hl
   rw [z,blkR,if_pos rfl]
   exact ⟨rfl,hl,zl⟩
  ·have hw:=hm.wid lev (by omega) (by omega)
   have hw2:=jm4 hE hi h0 h2 (l:=lev) (by omega) (by omega)
   have hco:=qG2 hm hl hv
   rw [if_neg e0] at hco
   rcases (ZU hm.kind).1 hv with ⟨k1,k2⟩ | ⟨k1,k2⟩
   ·rw [if_pos k2,k2] at hco
    rw [k2,hco,if_pos ⟨by omega,rfl⟩,if_pos ⟨by omega,rfl⟩]
    subst k2
    exact ⟨k1,hv,hco⟩
   ·have hne:v≠qY:=fun e=>by unfold qY at e;omega
    rw [if_neg hne] at hco
    have hb:=ZN (v:=v) (w:=qE (qg s i) lev) (by omega)
    have hbn:=jr8 hw hw2 (show -1000000≤v by omega)
    have hdv:qE (qg s i) lev ∣ qA v (qE (qg s i) lev) * qE (qg s i) lev:=Int.dvd_mul_left _ _
    generalize hB:qA v (qE (qg s i) lev) * qE (qg s i) lev = b at hco hb hbn hdv
    rw [hco,if_neg (fun k=>hbn k.2),if_neg (fun k=>hbn k.2),blkR,if_neg (show ¬ (lev:Int) = 0 by omega),if_neg (by
     rintro (k | k | k)
     ·exact hbn k
     ·rw [show inB b (-2000000) 2000000 = true from jA.2 (by omega)] at k;cases k
     ·exact k (Int.tmod_eq_zero_of_dvd hdv))]
    dsimp only
    have hu:=hH (max (qg s i).low b) (by omega) (by omega)
    refine ⟨decide_eq_true (by omega),hu,?_⟩
    rw [qG2 hm hl hu,if_neg e0,if_neg (fun e=>by unfold qY at e;omega)]
    by_cases q:(qg s i).low≤b
    ·rw [show max (qg s i).low b = b by omega]
     exact jr7 (by omega) hdv
    ·rw [show max (qg s i).low b = (qg s i).low by omega,← hB]
     congr 1
     exact jf8 hw (by rw [hB];omega) (by rw [Int.add_mul,hB,Int.one_mul];omega)
structure Kn (s:Sch) (row:List Int) (l:List Pk) (v:List Int):Prop where
 len:v.length = l.length
 val:∀ i (h:i < l.length),v.getD i 0 = qr s l[i].col l[i].lev (row.getD l[i].col.toNat 0)
 pick:∀ p∈l,wJ s p = 0∧0 < p.lev
 asc:l.Pairwise fun a b=>a.col < b.col
theorem js3 {l:List Pk} (ha:l.Pairwise fun a b=>a.col < b.col) {i:Nat} (hi:i < l.length) (h0:0 < l[i].lev) (k:Int):mxl (l.take (i + 1)) k = if l[i].col = k then l[i].lev else mxl (l.take i) k:=by
 rw [qM hi,zA9]
 split
 ·rename_i e
  have h1:mxl (l.take i) k = 0:=Jh fun p hp=>by
   obtain ⟨j,hj,rfl⟩:=List.mem_take_iff_getElem.1 hp
   have:=List.pairwise_iff_getElem.1 ha j i (by omega) hi (by omega)
   omega
  rw [h1];omega
 ·rfl
theorem qM6 (s:Sch) (hE:schE s = 0) (row:List Int) (hrow:rowE s row = 0) (l:List Pk) (v:List Int) (K:Kn s row l v) (hll:l.length < 1000000):∀ c,nodE s c = 0→(∀ a∈atsC c,(decN s a:Int)≤mxl l a.col)→Spc Tryz.prog Qf [schT s,cnT c,vPs l,vIs v] [] (vI (evC s row c)) []:=by
 have hok:=qJ hE
 obtain ⟨_,hr,hrh⟩:=qV7 hrow
 have kl:=K.len
 refine Cnd.ind' fun c ih hN hA=>?_
 obtain ⟨hE1,hE2⟩:=zo8 hN
 have hnd:=zz3 hE1
 have hks:c.kids.length≤2:=by have:=hnd.nk;unfold arC at this;grind
 rw [zV0]
 have hi:isAt c = ((c.op == 2) || (c.op == 3) || (c.op == 4)):=rfl
 refine qd qC7 mixm (by simp) fun e _ hst=>qj ?_
 unfold ZA
 refine sW ?_
 rw [← hi]
 refine ⟨fun h=>?_,fun h=>?_⟩
 ·rw [if_pos h]
  obtain ⟨n1,n2,n3⟩:=Ki hE hnd h
  obtain ⟨_,c1,c2,_⟩:=kV (s:=s) (c:=c.col) (by omega)
  have hca:=hA c (by rw [Yo,if_pos h];exact List.mem_singleton.2 rfl)
  obtain ⟨k,hk⟩:=Int.eq_ofNat_of_zero_le (show 0≤c.col by omega)
  have hkl:k < s.cols.length:=by omega
  have hh:=hrh k (by omega)
  have hkn:c.col.toNat = k:=by omega
  rw [hkn]
  generalize hx:row.getD k 0 = x at hh
  refine qw mixm (α:=Nat) [9,10,11] (fun i=>i≤l.length) (fun i=>[(9,vI (mxl (l.take i) c.col)),(10,vI (if mxl (l.take i) c.col = 0 then 0 else qr s k (mxl (l.take i) c.col) x)),(11,vI i)]) (fun i=>[(4096,.arr 2 [schT s] false),(4100,.arr 6 [cnT c] false)]) (fun i=>l.length - i) 0 (by omega) ?_ fun i hi=>?_
  ·exact .oA [(4096,some 4096),(4100,some 4100)] []
  refine sD ?_
  refine ⟨fun h5=>?_,fun h5=>?_⟩
  ·have hi2:i < l.length:=by omega
   have hiv:i < v.length:=by omega
   have hwi:=qk (i:=i) (by omega)
   obtain ⟨p1,p2⟩:=K.pick _ (List.getElem_mem hi2)
   have hh2:=js3 K.asc hi2 p2 c.col
   have hv:=K.val i hi2
   rw [qh hiv] at hv
   simp only [tZ,↓un_u,simprocAttr,Int.toNat_natCast,qe hi2,qe hiv,hwi,beq_iff_eq,beq_eq_false_iff_ne]
   refine ⟨by omega,by kernel_rfl,fun h6=>?_,fun h6=>?_⟩
   ·rw [if_pos h6] at hh2
    have:qr s l[i].col l[i].lev (row.getD l[i].col.toNat 0) = qr s k l[i].lev x:=by
     rw [h6,hk,Int.toNat_natCast,hx]
    rw [this] at hv
    refine ⟨by omega,by omega,by kernel_rfl,i + 1,by omega,by omega,?_⟩
    rw [hh2,if_neg (by omega),← hv]
    exact .oA [(4096,some 4096),(4100,some 4100)] []
   ·rw [if_neg h6] at hh2
    refine ⟨i + 1,by omega,by omega,?_⟩
    rw [hh2]
    exact .oA [(4096,some 4096),(4100,some 4100)] []
  ·have hil:i = l.length:=by omega
   subst hil
   rw [List.take_length]
   have hf:=qG1 hE (k:=k) (by omega) hkl
   have hMf:mxl l c.col≤finI s k:=by
    rw [hk]
    exact zB4 hf fun p hp e=>by rw [← e];exact (qk8 (K.pick p hp).1).2.2.2.2
   obtain ⟨M,hM⟩:=Int.eq_ofNat_of_zero_le (JT l c.col)
   rw [hM] at hMf hca ⊢
   have hval:(if (M:Int) = 0 then 0 else qr s k M x) = qr s k M x:=by
    by_cases e:(M:Int) = 0
    ·rw [if_pos e,e,js2 hE hkl (by omega) hh]
    ·rw [if_neg e]
   rw [hval,hk]
   obtain ⟨_,s2,s3⟩:=jx6 hE hkl (by omega) hMf hh
   have sS:=zk2 s hE k hkl (by omega) M (qr s k M x) ⟨by omega,hMf⟩
   generalize zk1 s k M (qr s k M x) = u at s2 s3 sS
   have hat:zH s c u = zH s c x:=by
    have:=jr9 hE hkl (by omega) (o:=decN s c) (lev:=M) (by omega) hMf s2 hh s3
    exact js1 hE hnd h n1 n2 (by rw [hkn];exact s2) (by rw [hkn];exact hh) (by rw [hk];exact this)
   have sA:=Jf s hok c hnd u
   rw [hat] at sA
   refine C1.im sS (by rfl) (by rfl) ?_
   refine sW ?_
   rw [← hk]
   refine C1.im sA (by rfl) (by rfl) ?_
   refine sW ?_
   refine ⟨by kernel_rfl,?_⟩
   exact .oA [] []
 ·rw [if_neg (by rw [h];simp)]
  have hAk:∀ k∈c.kids,∀ a∈atsC k,(decN s a:Int)≤mxl l a.col:=fun k hk a ha=>hA a (by
   rw [Yo,if_neg (by rw [h];simp)]
   have key:∀ L:List Cnd,k∈L→a∈Zc L:=by
    intro L
    induction L with
    | nil=>intro h;simp at h
    | cons x r ihl=>
      intro h
      rw [Zc,List.mem_append]
      rcases List.mem_cons.1 h with e | h
      ·left;rw [← e];exact ha
      ·exact .inr (ihl h)
   exact key _ hk)
  refine qw mixm (α:=Nat) [12,13] (fun i=>i≤c.kids.length) (fun i=>[(12,.asl 1 i),(13,vI i)]) (fun i=>[(4096,.arr 2 [schT s] false),(4100,.arr 6 [cnT c] false),(1,.arr 1 (((c.kids.take i).map (evC s row)).map vI) false)]) (fun i=>c.kids.length - i) 0 (by omega) ?_ fun i hi=>?_
  ·exact .oA [(4096,some 4096),(4100,some 4100),(1,none)] []
  refine sD ?_
  refine ⟨fun h5=>?_,fun h5=>?_⟩
  ·have hi2:i < c.kids.length:=by omega
   have hwi:=qk (i:=i) (by omega)
   simp only [tZ,↓un_u,simprocAttr,Int.toNat_natCast,qe hi2,zx]
   refine ⟨by omega,?_⟩
   refine C1.im (ih _ (List.getElem_mem hi2) (hE2 _ (List.getElem_mem hi2)) (hAk _ (List.getElem_mem hi2))) (by rfl) (by rfl) ?_
   simp only [tZ,↓un_u,simprocAttr,hwi]
   have hlt:(c.kids.take i).length = i:=by simp;omega
   refine ⟨by omega,by kernel_rfl,i + 1,by omega,by omega,?_⟩
   rw [qM hi2,List.map_append,List.map_append]
   exact .oA [(4096,some 4096),(4100,some 4100),(1,some 1)] []
  ·have hil:i = c.kids.length:=by omega
   subst hil
   rw [List.take_length]
   have hj:=qt5 c.op (c.kids.map (evC s row)) (fun e=>by rw [List.length_map,hnd.nk,e];decide) (fun e=>by rw [List.length_map,hnd.nk];rcases e with e | e <;> rw [e] <;> decide) (fun k hk=>by
    obtain ⟨x,_,rfl⟩:=List.mem_map.1 hk
    exact jl5 s row x)
   refine C1.shut [1] hj ?_ (by rfl) rfl ?_
   ·simp only [tL,simprocAttr]
    exact jl1 _
   refine sW ?_
   exact .oA [] []
theorem qG4 (s:Sch) (hE:schE s = 0) (hL:0 < s.lists.length) (row:List Int) (hrow:rowE s row = 0) (l:List Pk) (v:List Int) (K:Kn s row l v) (hll:l.length < 1000000) (c:Cnd) (hc:chkC s c = 0) (hp:Qq s l = 0) (hcv:covB (zO s c) l = true):Spc Tryz.prog Qd [schT s,cnT c,vPs l,vIs v] [] (vI (evC s row c)) []:=by
 have hok:=qJ hE
 have hs:=hok.sm
 obtain ⟨_,hr,hrh⟩:=qV7 hrow
 obtain ⟨_,_,_,hN⟩:=KZ hc
 have kl:=K.len
 have hnc:=ql2 s c
 have sC:=KY s hs hL c
 rw [hc] at sC
 have sP:=qW2 s hs l (by omega)
 rw [hp] at sP
 have sN:=qW8 s hs hL c
 have sV:=qM4 (zO s c) l (by omega) (by omega)
 rw [hcv] at sV
 have hA:∀ a∈atsC c,(decN s a:Int)≤mxl l a.col:=fun a ha=>by
  have h1:(⟨a.col,decN s a⟩:Pk)∈atP s c:=List.mem_map.2 ⟨a,ha,rfl⟩
  have h2:=zB5 h1
  dsimp only at h2
  obtain ⟨hnd,hia⟩:=qQ4 c hN a ha
  obtain ⟨n1,_,_⟩:=Ki hE hnd hia
  obtain ⟨_,c1,c2,_⟩:=kV (s:=s) (c:=a.col) (by omega)
  obtain ⟨k,hk⟩:=Int.eq_ofNat_of_zero_le (show 0≤a.col by omega)
  rw [hk,← qG0 hc] at h2
  rw [hk]
  by_cases h0:0 < mxl (zO s c) k
  ·obtain ⟨p,hp1,hp2,hp3⟩:=zp9 h0
   unfold covB at hcv
   obtain ⟨y,hy,hy2⟩:=List.any_eq_true.1 (List.all_eq_true.1 hcv p hp1)
   rw [Bool.and_eq_true,beq_iff_eq,decide_eq_true_eq] at hy2
   have:=zB5 hy
   rw [hy2.1,hp2] at this
   omega
  ·have:=JT l k
   omega
 have sO:=qM6 s hE row hrow l v K hll c hN hA
 generalize zO s c = N at sN sV hnc
 refine qd qB3 mixm (by simp) fun e _ hst=>qj ?_
 unfold Zt
 refine sW ?_
 refine C1.im sC (by rfl) (by rfl) ?_
 simp only [tZ,↓un_u,simprocAttr,bne_self_eq_false]
 refine C2.im (fun _=>sP) (fun _=>rfl) (by rfl) ?_
 simp only [tZ,↓un_u,simprocAttr,bne_self_eq_false,kl]
 refine C2.im (fun _=>sN) (fun _=>rfl) (by rfl) ?_
 refine sW ?_
 refine C2.im (fun _=>sV) (fun _=>rfl) (by rfl) ?_
 refine sW ?_
 refine qw mixm (α:=Nat) [9] (fun i=>i≤l.length) (fun i=>[(9,vI i)]) (fun i=>[(4096,.arr 2 [schT s] false),(4100,.arr 6 [cnT c] false)]) (fun i=>l.length - i) 0 (by omega) ?_ fun i hi=>?_
 ·exact .oA [(4096,some 4096),(4100,some 4100)] []
 refine sD ?_
 refine ⟨fun h5=>?_,fun h5=>?_⟩
 ·have hi2:i < l.length:=by omega
  have hiv:i < v.length:=by omega
  have hwi:=qk (i:=i) (by omega)
  have hv:=K.val i hi2
  rw [qh hiv] at hv
  obtain ⟨p1,p2⟩:=K.pick _ (List.getElem_mem hi2)
  obtain ⟨_,q1,q2,q3,q4⟩:=qk8 p1
  have sCn:=zq0 s hs l[i].col l[i].lev v[i]
  have hcan:canR s l[i].col l[i].lev v[i] = true:=by
   rw [hv]
   generalize l[i].col = cc at q1 q2 q4
   generalize l[i].lev = ll at q3 q4
   obtain ⟨k,rfl⟩:=Int.eq_ofNat_of_zero_le (show 0≤cc by omega)
   obtain ⟨M,rfl⟩:=Int.eq_ofNat_of_zero_le q3
   rw [Int.toNat_natCast]
   exact (jx6 hE (by omega) (by omega) q4 (hrh k (by omega))).1
  rw [hcan] at sCn
  simp only [tZ,↓un_u,simprocAttr,Int.toNat_natCast,qe hi2,qe hiv,hwi]
  repeat (first | refine ⟨by omega,?_⟩ | refine ⟨by kernel_rfl,?_⟩)
  refine C1.im sCn (by rfl) (by rfl) ?_
  simp only [tZ,↓un_u,simprocAttr,hwi]
  refine ⟨by kernel_rfl,i + 1,by omega,by omega,?_⟩
  exact .oA [(4096,some 4096),(4100,some 4100)] []
 ·refine C1.im sO (by rfl) (by rfl) ?_
  refine sW ?_
  exact .oA [] []
end Go.Proofs
namespace Go.Proofs
open Go Go.TL
set_option maxRecDepth 4000
set_option maxHeartbeats 8000000
end Go.Proofs
namespace Go.Proofs
open Go Go.TL
set_option maxRecDepth 4000
set_option maxHeartbeats 8000000
def awL:CodL:=⟨⟨#[108]⟩,[⟨⟨#[97]⟩,-1⟩,⟨⟨#[98]⟩,0⟩,⟨⟨#[99]⟩,0⟩,⟨⟨#[100]⟩,1⟩,⟨⟨#[101]⟩,2⟩]⟩
def awS9:Sch:=⟨[awL],[⟨⟨#[119,104,111]⟩,1,0,0,0,[],false⟩,⟨⟨#[115,101,120]⟩,2,0,0,0,[],false⟩]⟩
def awQ9:Qst:=⟨⟨#[113]⟩,1,.mk 1 0 0 0 0 [],[⟨1,2⟩],-1,[],cnd0⟩
theorem qY5:Qp awS9:=⟨by decide,by decide,by decide⟩
theorem qY6:Spc Tryz.prog Kv [] [] (vB true) []:=by
 have hN:=Qb awS9 qY5 awQ9
 rw [show qe3 awS9 awQ9 = [⟨1,1⟩] by kernel_rfl] at hN
 have hP:=qq1 [⟨1,1⟩] [⟨1,1⟩] (by decide)
 rw [show qE3 [⟨1,1⟩] [⟨1,1⟩] = true by kernel_rfl] at hP
 have hS1:=ZT awS9 qY5 awQ9 [⟨1,1⟩] (by decide)
 rw [show sufB awS9 awQ9 [⟨1,1⟩] = true by kernel_rfl] at hS1
 have hS2:=ZT awS9 qY5 awQ9 [] (by decide)
 rw [show sufB awS9 awQ9 [] = false by kernel_rfl] at hS2
 have hT:=qr5 awS9 qY5 awQ9 1 3 4
 rw [show qR2 awS9 awQ9 1 3 4 = true by kernel_rfl] at hT
 refine qd qH2 mixm (by simp) fun e _ hst=>qj ?_
 unfold Jl
 refine sW ?_
 refine C1.shutD [8212,8220,8232,12296] hN ?_ (by rfl) rfl ?_
 ·simp [ptw,ltAD,ltD,TL.get,T.cells,imT,imL,awS9,awQ9,awL]
  all_goals (try (repeat' apply And.intro))
  all_goals (try rfl)
 refine sW ?_
 refine C1.lendD [20488] hP ?_ (by rfl) (by rfl) ?_
 ·simp [ptw,ltAD,ltD,TL.get,T.cells,imT,imL]
  all_goals (try (repeat' apply And.intro))
  all_goals (try rfl)
 refine sW ?_
 refine C2.lendD [8212,8220,8232,12296] (fun _=>hS1) (fun _=>?_) (by rfl) (by rfl) ?_
 ·simp [ptw,ltAD,ltD,TL.get,T.cells,imT,imL,awS9,awQ9,awL]
  all_goals (try (repeat' apply And.intro))
  all_goals (try rfl)
 refine sW ?_
 refine C2.lendD [8212,8220,8232,12296] (fun _=>hS2) (fun _=>?_) (by rfl) (by rfl) ?_
 ·simp [ptw,ltAD,ltD,TL.get,T.cells,imT,imL,awS9,awQ9,awL]
  all_goals (try (repeat' apply And.intro))
  all_goals (try rfl)
 refine sW ?_
 refine C2.lendD [8212,8220,8232,12296] (fun _=>hT) (fun _=>?_) (by rfl) (by rfl) ?_
 ·simp [ptw,ltAD,ltD,TL.get,T.cells,imT,imL,awS9,awQ9,awL]
  all_goals (try (repeat' apply And.intro))
  all_goals (try rfl)
 refine sW ?_
 exact .oA [] []
end Go.Proofs
namespace Go.Proofs
open Go Go.TL
set_option maxRecDepth 4000
set_option maxHeartbeats 8000000
theorem DrS.nl0 {s:Sch} (h:DrS s):0 < s.lists.length:=by
 obtain ⟨a,b,e,_⟩:=h.ls
 rw [e];simp
theorem x_SQ (l:List UInt8) (hl:l.length≤400):∃ (s:Sch) (q:Qst) (a1 a2:Nat),DrS s∧qstE s q = 0∧a1≤l.length∧a2≤l.length∧schE s = 0∧Qp s∧0 < s.lists.length∧1≤s.cols.length∧s.cols.length≤8∧
 Spc Tryz.prog jC [.ptr 0 1 0 0] [(0,oC l 0)] (schT s) [(0,oC l a1)]∧Spc Tryz.prog zz [.ptr 0 1 0 0,schT s,vS ⟨#[113]⟩] [(0,oC l a1)] (qstT q) [(0,oC l a2)]:=by
 obtain ⟨⟨s,a1⟩,⟨hD,ha1⟩,sS⟩:=qe7 l 0 hl (by omega)
 dsimp only at hD ha1 sS
 obtain ⟨⟨q,a2⟩,⟨⟨hq,_⟩,ha2⟩,sQ⟩:=Yw s hD ⟨#[113]⟩ (by kernel_rfl) l a1 hl ha1
 have hE:=hD.ok
 have hn:=(qJ hE).nc
 exact ⟨s,q,a1,a2,hD,hq,ha1,ha2,hE,(qJ hE).sm,hD.nl0,by omega,by omega,sS,sQ⟩
end Go.Proofs
namespace Go.Proofs
open Go Go.TL
set_option maxRecDepth 4000
set_option maxHeartbeats 8000000
end Go.Proofs
namespace Go.Proofs
open Go Go.TL
set_option maxRecDepth 4000
set_option maxHeartbeats 8000000
theorem Yy (bs:List UInt8):Spc Tryz.prog Qn [vL bs] [] (vB true) []:=by
 have hl4:(bs.take 400).length≤400:=by rw [List.length_take];omega
 obtain ⟨s,q,a1,a2,hD,hq,ha1,ha2,hE,hs,hL,hc1,hc8,sS,sQ⟩:=x_SQ (bs.take 400) hl4
 obtain ⟨⟨row,a3⟩,⟨hrow,_,ha3⟩,sR⟩:=ql3 s hD (bs.take 400) a2 hl4 ha2
 dsimp only at hrow ha3 sR
 obtain ⟨_,hr,hrh⟩:=qV7 hrow
 have hqk:=qq6 hq
 have sN:=Qb s hs q
 have hnl:=zj1 s q
 have hQf:=qr8 hq
 have hpk:=zp6 hq
 obtain ⟨_,hpE,hasc⟩:=zV2 hpk
 have hpos:∀ p∈qe3 s q,0 < p.lev:=fun p hp=>by
  rw [hQf] at hp
  obtain ⟨k,_,k2,rfl⟩:=We.1 hp
  exact k2
 have hcov:∀ c∈cnsL q,covB (zO s c) (qe3 s q) = true:=fun c hc=>by
  rw [hQf,(Kp (qR3 hqk c hc)).1]
  refine zX3 fun k _=>?_
  rw [← qG0 (qR3 hqk c hc)]
  refine zB4 (JT _ _) fun p hp e=>?_
  have:p∈qr7 s q:=by unfold qr7;exact List.mem_append.2 (.inr (List.mem_flatMap.2 ⟨c,hc,hp⟩))
  have:=zB5 this
  rw [e] at this;exact this
 have hchk:=qR3 hqk
 have hE0:∀ c,c∈cnsL q→zF1 s c row = evC s row c:=fun c hc=>by
  rw [zF1,if_neg (not_or.2 ⟨fun h=>h (hchk c hc),fun h=>h hrow⟩)]
 have hcF:q.filt∈cnsL q:=by unfold cnsL;split <;> exact List.mem_cons_self
 have hcE:q.kind = 3→q.event∈cnsL q:=fun h=>by unfold cnsL;rw [if_pos h];exact List.mem_cons_of_mem _ (List.mem_singleton.2 rfl)
 generalize qe3 s q = N at sN hnl hpk hpE hasc hpos hcov
 have hV:∀ V:List Int,V = N.map (fun p=>qr s p.col p.lev (row.getD p.col.toNat 0))→Kn s row N V:=fun V e=>by
  subst e
  refine ⟨List.length_map _,fun i h=>?_,fun p hp=>⟨hpE p hp,hpos p hp⟩,hasc⟩
  rw [qh (by rw [List.length_map];exact h),List.getElem_map]
 have sC:=fun c (hc:c∈cnsL q)=>qG4 s hE hL row hrow N _ (hV _ rfl) (by omega) c (hchk c hc) hpk (hcov c hc)
 have sE:=fun c (hc:c∈cnsL q)=>by
  have:=zi8 s hs hL c row (by omega)
  rw [hE0 c hc] at this
  exact this
 have hcl:(N.map (fun p=>qr s p.col p.lev (row.getD p.col.toNat 0))).length = N.length:=List.length_map _
 refine qd Wo mixm (by simp) fun e _ hst=>qj ?_
 unfold jU
 refine sW ?_
 refine C1.newdraw 8196 (zE8 bs) rfl rfl ?_
 generalize bs.take 400 = m at hl4 sS sQ sR ha1 ha2 ha3 ⊢
 refine sW ?_
 refine C1.draw 8196 m 0 _ sS rfl rfl rfl ?_
 refine sW ?_
 refine C1.draw 8196 m a1 _ sQ rfl rfl rfl ?_
 refine sW ?_
 refine C1.draw 8196 m a2 _ sR rfl rfl rfl ?_
 refine sW ?_
 refine ⟨by kernel_rfl,?_⟩
 refine C1.im sN (by rfl) (by rfl) ?_
 refine sW ?_
 refine qw mixm (α:=Nat) [8,26] (fun i=>i≤N.length) (fun i=>[(8,.asl 1 i),(26,vI i)]) (fun i=>[(12296,.arr 2 [schT s] false),(16408,.arr 17 [qstT q] false),(1,.arr 1 (((N.take i).map (fun p=>qr s p.col p.lev (row.getD p.col.toNat 0))).map vI) false)]) (fun i=>N.length - i) 0 (by omega) ?_ fun i hi=>?_
 ·exact .oA [(12296,some 12296),(16408,some 16408),(1,none)] []
 have htl:(N.take i).length = i:=by rw [List.length_take];omega
 refine sD ?_
 refine ⟨fun h3=>?_,fun h3=>?_⟩
 ·have hi2:i < N.length:=by omega
  have hwi:=qk (i:=i) (by omega)
  obtain ⟨_,q1,q2,q3,q4⟩:=qk8 (hpE _ (List.getElem_mem hi2))
  have hcr:N[i].col.toNat < row.length:=by omega
  have sCo:=wg s hs N[i].col N[i].lev (row.getD N[i].col.toNat 0)
  have hgr:(row.map vI).getD N[i].col.toNat .junk = vI (row.getD N[i].col.toNat 0):=by rw [qe hcr,qh hcr]
  simp only [tZ,↓un_u,simprocAttr,Int.toNat_natCast,qe hi2,hgr,tD]
  refine ⟨by omega,fun h4=>by omega,fun h4=>?_⟩
  repeat (first | refine ⟨by omega,?_⟩ | refine ⟨by kernel_rfl,?_⟩)
  refine C1.im sCo (by rfl) (by rfl) ?_
  simp only [tZ,↓un_u,simprocAttr,hwi]
  refine ⟨⟨htl,by omega⟩,by kernel_rfl,i + 1,by omega,by omega,?_⟩
  rw [qM hi2,List.map_append,List.map_append]
  exact .oA [(12296,some 12296),(16408,some 16408),(1,some 1)] []
 ·have hil:i = N.length:=by omega
  subst hil
  rw [List.take_length]
  generalize N.map (fun p=>qr s p.col p.lev (row.getD p.col.toNat 0)) = V at sC hcl ⊢
  have sCf:=sC q.filt hcF
  have sEf:=sE q.filt hcF
  refine C1.lend [1] sCf ?_ (by rfl) (by rfl) ?_
  ·all_goals (try exact clA)
  refine sW ?_
  refine C1.im sEf (by rfl) (by rfl) ?_
  simp only [tZ,↓un_u,simprocAttr,bne_self_eq_false]
  refine ⟨by kernel_rfl,?_⟩
  have sCe:=fun h=>sC q.event (hcE h)
  have sEe:=fun h=>sE q.event (hcE h)
  have hk3:(q.kind != 3) = false→q.kind = 3:=fun h=>by simpa using h
  refine C2.lend [1] (fun h=>sCe (hk3 h)) (fun _=>?_) (by rfl) (by rfl) ?_
  ·all_goals (try exact clA)
  refine sW ?_
  refine C2.im (fun h=>sEe (hk3 h)) (fun _=>rfl) (by rfl) ?_
  simp only [tZ,↓un_u,simprocAttr,beq_self_eq_true]
  refine C2.im (fun _=>qY6) (fun _=>rfl) (by rfl) ?_
  refine sW ?_
  repeat (first | refine ⟨by omega,?_⟩ | refine ⟨by kernel_rfl,?_⟩)
  exact .oA [] []
end Go.Proofs
