/- A part of the proof: trees of Go values, short forms, contracts. -/
import Derived.WalkKit
import Derived.Still
import Derived.MapKept
import GoSem.Builtin.Cap
import Derived.Laws.Externs
import GoSem.Extern.SlicesOverlaps
import Derived.Carry
import Derived.ProofKit
import Derived.OpenShut
import Derived.HandedShaped
import Derived.Lay
import Derived.LaidLaws
import Derived.MakeChecks
import Derived.SevenTiedAt
import Derived.Test.YtjckmmphmhafjaaGreatDoorChecked
import Derived.Test.YtjckmmphmhafjaaGreatDoorK17
set_option linter.unusedSimpArgs false
set_option linter.unusedVariables false
namespace Go.Proofs
open Go Go.TL
set_option maxHeartbeats 4000000
theorem qz6 (s:Sch) (hE:schE s = 0) (c:Cnd) (hnd:NdOk s c) (ha:isAt c = true) (lev:Nat) (hl:(lev:Int)≤finI s c.col):Spc Tryz.prog QP [schT s,cnT c,vI lev] [] (vB (decB s c lev)) []:=by
 have hok:=qT hE
 have hn0:=hok.nl
 have hn1:=hok.nc
 obtain ⟨_,c1,c2,hfin⟩:=qz1 (s:=s) (c:=c.col) (by omega)
 obtain ⟨i,hci⟩:=Int.eq_ofNat_of_zero_le (show 0≤c.col by omega)
 have hcn:c.col.toNat = i:=by omega
 have hil:i < s.cols.length:=by omega
 have hat:qu s i = s.cols[i]:=by rw [qu,qj hil]
 have hwd:=fun e l=>hok.wid hil (by omega) e (lev:=l)
 have hlv:=Jw s hok i hil
 have hll:=qm2 hok hil
 rw [hcn,hat] at hfin
 rw [hat] at hwd hlv hll
 have hi:isAt c = ((c.op == 2) || (c.op == 3) || (c.op == 4)):=rfl
 have hD:decB s c lev = if c.op = 2 then qI1 (ja s i).length (decP s c lev)
 else if c.op = 4 then decide (0 < lev)
 else if lev = 0 then !s.cols[i].opt && !(decide (s.cols[i].low < c.lo) && decide (c.lo≤s.cols[i].high)) && !(decide (s.cols[i].low≤c.hi) && decide (c.hi < s.cols[i].high))
  else (!(decide (s.cols[i].low < c.lo) && decide (c.lo≤s.cols[i].high)) || (c.lo.tmod (zH s.cols[i] lev) == 0)) && (!(decide (s.cols[i].low≤c.hi) && decide (c.hi < s.cols[i].high)) || ((c.hi + 1).tmod (zH s.cols[i] lev) == 0)):=by
  rw [decB,hcn,hat]
 have hk2:c.op = 2→s.cols[i].kind = 2:=fun h=>by
  have:=(jm.1 (hnd.under h).1).2.2
  rw [hcn,hat] at this;exact this
 have hk3:c.op = 3→s.cols[i].kind = 3:=fun h=>by
  have:=(jm.1 (hnd.between h).1).2.2
  rw [hcn,hat] at this;exact this
 have hPd:∀ L,ja s i = L→∀ j k,decP s c lev j k = !((jb s c.col lev (L.getD j 0) == jb s c.col lev (L.getD k 0)) && !(qy6 s c (L.getD j 0) == qy6 s c (L.getD k 0))):=fun L hL j k=>by rw [decP,hcn,hL]
 rw [hD]
 have hci2:vI c.col = vI i:=by rw [hci]
 refine qe qq3 mixm (by simp) fun e _ hst=>qh ?_
 unfold yT
 simp only [tZ,↓un_u,simprocAttr,hcn,qd hil]
 generalize s.cols[i] = x at hwd hlv hfin hll hk2 hk3 ⊢
 simp only [tZ,↓un_u,simprocAttr,beq_iff_eq,beq_eq_false_iff_ne]
 refine ⟨by omega,fun h2=>?_,fun h2=>?_⟩
 ·rw [if_pos h2]
  rw [← hci2] at hlv
  refine C1.im (hlv (hk2 h2)) (by rfl) (by rfl) ?_
  have hPd:=hPd _ rfl
  generalize ja s i = L at hll hPd ⊢
  have hll:=hll (hk2 h2)
  refine sW ?_
  refine qr mixm (α:=Nat) [9] (fun j=>j≤L.length∧qI1 j (decP s c lev) = true) (fun j=>[(9,vI j)]) (fun j=>[(4096,.arr 2 [schT s] false),(4100,.arr 6 [cnT c] false),(8216,.arr 7 [colT x] false)]) (fun j=>L.length - j) 0 ⟨by omega,rfl⟩ ?_ fun j hj=>?_
  ·exact .oA [(4096,some 4096),(4100,some 4100),(8216,some 8216)] []
  obtain ⟨j1,j2⟩:=hj
  refine sD ?_
  refine ⟨fun h3=>?_,fun h3=>?_⟩
  ·have hj2:j < L.length:=by omega
   have hwj:=qg (i:=j) (by omega)
   have hgj:L.getD j 0 = L[j]:=qj hj2
   refine qr mixm (α:=Nat) [10] (fun k=>k≤j∧(List.range k).all (decP s c lev j) = true) (fun k=>[(10,vI k)]) (fun k=>[(4096,.arr 2 [schT s] false),(4100,.arr 6 [cnT c] false),(8216,.arr 7 [colT x] false)]) (fun k=>j - k) 0 ⟨by omega,rfl⟩ ?_ fun k hk=>?_
   ·exact .oA [(4096,some 4096),(4100,some 4100),(8216,some 8216)] []
   obtain ⟨k1,k2⟩:=hk
   refine sD ?_
   refine ⟨fun h4=>?_,fun h4=>?_⟩
   ·have hk2:k < L.length:=by omega
    have hwk:=qg (i:=k) (by omega)
    have hgk:L.getD k 0 = L[k]:=qj hk2
    have hP:=hPd j k
    rw [hgj,hgk] at hP
    have hC1:=WT s hok c hnd L[j]
    have hC2:=WT s hok c hnd L[k]
    simp only [tZ,↓un_u,simprocAttr,Int.toNat_natCast,qd hj2,qd hk2]
    refine ⟨by omega,?_⟩
    refine C1.im (jc s hok.sm c.col lev L[j]) (by rfl) (by rfl) ?_
    simp only [tZ,↓un_u,simprocAttr,Int.toNat_natCast,qd hj2,qd hk2]
    refine ⟨by omega,?_⟩
    refine C1.im (jc s hok.sm c.col lev L[k]) (by rfl) (by rfl) ?_
    simp only [tZ,↓un_u,simprocAttr,Int.toNat_natCast,qd hj2,qd hk2]
    refine ⟨fun _=>by omega,?_⟩
    refine C2.im (fun _=>hC1) (fun _=>rfl) (by rfl) ?_
    simp only [tZ,↓un_u,simprocAttr,Int.toNat_natCast,qd hj2,qd hk2]
    refine ⟨fun _=>by omega,?_⟩
    refine C2.im (fun _=>hC2) (fun _=>rfl) (by rfl) ?_
    simp only [tZ,↓un_u,simprocAttr,hwk,tD,bne_iff_ne,bne_eq_false_iff_eq,beq_iff_eq,beq_eq_false_iff_ne]
    refine ⟨by kernel_rfl,fun h5=>?_,fun h5=>?_⟩
    ·rw [zA1 hj2 (show k < j by omega) (by rw [hP];grind)]
     exact .oA [] []
    ·refine ⟨k + 1,⟨by omega,?_⟩,by omega,?_⟩
     ·rw [ZD,k2,hP];grind
     ·exact .oA [(4096,some 4096),(4100,some 4100),(8216,some 8216)] []
   ·have hkj:k = j:=by omega
    subst hkj
    simp only [tZ,↓un_u,simprocAttr,hwj]
    refine ⟨k + 1,⟨by omega,?_⟩,by omega,?_⟩
    ·rw [qM5,j2,k2];rfl
    ·exact .oA [(4096,some 4096),(4100,some 4100),(8216,some 8216)] []
  ·have hjl:j = L.length:=by omega
   subst hjl
   rw [j2]
   exact .oA [] []
 rw [if_neg h2]
 refine ⟨fun h4=>?_,fun h4=>?_⟩
 ·rw [if_pos h4]
  rw [show decide ((lev:Int) > 0) = decide (0 < lev) from by rw [Bool.eq_iff_iff,decide_eq_true_eq,decide_eq_true_eq];omega]
  exact .oA [] []
 rw [if_neg h4]
 have h3:c.op = 3:=by
  rw [hi] at ha
  simp only [tD,beq_iff_eq] at ha
  omega
 have hk3:=hk3 h3
 have hb:=hnd.between h3
 rw [if_neg (by omega)] at hfin
 refine ⟨by kernel_rfl,fun h5=>?_,fun h5=>?_⟩
 ·rw [if_pos (by omega),show decide (c.lo > x.low) = decide (x.low < c.lo) from rfl]
  exact .oA [] []
 ·rw [if_neg (by omega)]
  have hw:=hwd (by omega) lev (by omega)
  refine C1.im (QA x lev (by omega) (by omega)) (by rfl) (by rfl) ?_
  have hwh:IntKind.i64.wrap (c.hi + 1) = c.hi + 1:=IntWalk.i64_in _ (by omega)
  simp only [tZ,↓un_u,simprocAttr,hwh]
  rw [show decide (c.lo > x.low) = decide (x.low < c.lo) from rfl]
  refine ⟨fun _=>by omega,fun _=>by omega,?_⟩
  exact .oA [] []
theorem qz7 {s:Sch} (hE:schE s = 0) {i:Nat} (h1:0 < i) (h2:i < s.cols.length) (hk:(qu s i).kind = 2) {v:Int} (hv:v∈ja s i):jb s i (finI s i) v = v:=by
 have hok:=qT hE
 obtain ⟨d1,d2⟩:=hok.cdl h2 hk
 have hf:finI s i = yY (zG s i) - 1:=by
  rw [finI,if_neg (by omega),Int.toNat_natCast,if_pos hk]
 have hh:=qM4 hk d2 hv
 obtain ⟨j,j1,j2,rfl⟩:=(zp2 d2).1 hv
 rw [jb,if_neg,Int.toNat_natCast,if_pos hk,if_neg (by rw [hh];simp),upC,if_neg,hf,← j2,Int.toNat_natCast,Int.toNat_natCast,jo1 (by omega)]
 ·rw [hf,← j2,Int.toNat_natCast];omega
 ·rw [Bool.not_eq_false,qh4,hf,← j2];omega
theorem js2 {s:Sch} (hE:schE s = 0) {c:Cnd} (hnd:NdOk s c) (ha:isAt c = true):0≤finI s c.col∧decB s c (finI s c.col).toNat = true:=by
 have hok:=qT hE
 have hlv:∀ k,isB s c.col k = true→2≤k→∃ i:Nat,c.col = i∧0 < i∧i < s.cols.length∧(qu s i).kind = k:=fun k hb hk=>by
  obtain ⟨b1,b2,b3⟩:=jm.1 hb
  obtain ⟨i,hci⟩:=Int.eq_ofNat_of_zero_le b1
  rw [hci,Int.toNat_natCast] at b3
  refine ⟨i,hci,?_,by omega,b3⟩
  refine Nat.pos_of_ne_zero fun e=>?_
  subst e
  have:=hok.c0
  omega
 have hm:∀ i:Nat,0 < i→i < s.cols.length→(qu s i).kind = 3→finI s i = (qu s i).widths.length∧1≤(qu s i).widths.length:=fun i h1 h2 h3=>by
  refine ⟨by rw [finI,if_neg (by omega),Int.toNat_natCast,if_neg (by omega)],?_⟩
  have:=(jv (hok.cs i h2)).2.2.2.2 h3
  unfold measE at this
  grind
 have hop:c.op = 2∨c.op = 3∨c.op = 4:=by
  unfold isAt at ha
  simp only [Bool.or_eq_true,beq_iff_eq] at ha
  omega
 rcases hop with h | h | h
 ·obtain ⟨i,hci,h1,h2,hk⟩:=hlv 2 (hnd.under h).1 (by omega)
  obtain ⟨d1,d2⟩:=hok.cdl h2 hk
  have hf:finI s i = yY (zG s i) - 1:=by
   rw [finI,if_neg (by omega),Int.toNat_natCast,if_pos hk]
  have hf0:0≤finI s i:=by rw [hf,qU6 d2];omega
  rw [hci]
  refine ⟨hf0,?_⟩
  rw [decB,if_pos h,hci,Int.toNat_natCast,qI1,List.all_eq_true]
  intro j hj
  rw [List.mem_range] at hj
  rw [List.all_eq_true]
  intro k hk2
  rw [List.mem_range] at hk2
  have e:(((finI s i).toNat:Nat):Int) = finI s i:=by omega
  rw [decP,hci,Int.toNat_natCast,e,qj hj,qj (by omega),qz7 hE h1 h2 hk (List.getElem_mem _),qz7 hE h1 h2 hk (List.getElem_mem _)]
  grind
 ·obtain ⟨i,hci,h1,h2,hk⟩:=hlv 3 (hnd.between h).1 (by omega)
  obtain ⟨m1,m2⟩:=hm i h1 h2 hk
  have hw:=hok.wid h2 h1 (by omega) (lev:=(qu s i).widths.length) (by omega)
  rw [hci,m1]
  refine ⟨by omega,?_⟩
  rw [decB,if_neg (by omega),if_neg (by omega),hci,Int.toNat_natCast,Int.toNat_natCast]
  dsimp only
  rw [if_neg (by omega),hw.2.2.2.2.2.2.2]
  simp
 ·obtain ⟨i,hci,h1,h2,hk⟩:=hlv 3 (hnd.miss h).1 (by omega)
  obtain ⟨m1,m2⟩:=hm i h1 h2 hk
  rw [hci,m1]
  refine ⟨by omega,?_⟩
  rw [decB,if_neg (by omega),if_pos h,Int.toNat_natCast]
  exact decide_eq_true (by omega)
theorem zW4 {s:Sch} (hE:schE s = 0) {c:Cnd} (hnd:NdOk s c) (ha:isAt c = true):(decN s c:Int)≤finI s c.col∧decB s c (decN s c) = true∧(∀ m,m < decN s c→decB s c m = false):=by
 obtain ⟨h1,h2⟩:=js2 hE hnd ha
 have h3:=qV2 (c:=c.col) hE
 obtain ⟨a,b,_,d⟩:=qy8 h2 64 0 (by omega) (by omega)
 unfold decN
 exact ⟨by omega,a,fun m hm=>d m (by omega) hm⟩
def zi2 (s:Sch):List Pk→Cnd→List Pk:=fun l a=>KK l a.col (decN s a)
theorem qz8 (s:Sch):∀ (L:List Cnd) (l:List Pk),(L.foldl (zi2 s) l).length≤l.length + L.length
 | [],l=>Nat.le_refl _
 | a :: L,l=>by
   have h1:=qz8 s L (zi2 s l a)
   have h2:=qh7 l a.col (decN s a)
   rw [List.foldl_cons,List.length_cons]
   unfold zi2 at h1 ⊢
   omega
theorem qh8 (s:Sch) (hs:KJ s) (hL:0 < s.lists.length) (c:Cnd):Spc Tryz.prog Qn [schT s,cnT c] [] (vPs (yZ s c)) []:=by
 refine qe qE7 mixm (by simp) fun e _ hst=>qh ?_
 unfold Jd
 refine sW ?_
 refine C1.im (wR s hs hL c) (by rfl) (by rfl) ?_
 simp only [tZ,↓un_u,simprocAttr,bne_iff_ne,bne_eq_false_iff_eq]
 refine ⟨fun h=>?_,fun h=>?_⟩
 ·rw [yZ,if_pos h]
  exact .oA [] []
 obtain ⟨hE,k2,k3,k4⟩:=zp6 h
 have hal:=zp7 c 41 (by omega) k2
 have hao:=jx4 c k4
 have hN:yZ s c = (atsC c).foldl (zi2 s) []:=by rw [yZ,if_neg (by rw [h];simp)];rfl
 rw [hN]
 refine C1.im (qV6 c 41 (by omega) (by omega) k2) (by rfl) (by rfl) ?_
 generalize atsC c = L at hal hao ⊢
 refine sW ?_
 refine qr mixm (α:=Nat) [5,7,12] (fun i=>i≤L.length) (fun i=>[(5,vPs ((L.take i).foldl (zi2 s) [])),(7,vI i)]) (fun i=>[(4096,.arr 2 [schT s] false)]) (fun i=>L.length - i) 0 (by omega) ?_ fun i hi=>?_
 ·exact .oA [(4096,some 4096)] []
 have hlen:=qz8 s (L.take i) []
 rw [List.length_take] at hlen
 refine sD ?_
 refine ⟨fun h3=>?_,fun h3=>?_⟩
 ·have hi2:i < L.length:=by omega
  have hwi:=qg (i:=i) (by omega)
  obtain ⟨hnd,ha⟩:=hao _ (List.getElem_mem hi2)
  obtain ⟨n1,n2,n3⟩:=zW4 hE hnd ha
  have h59:=qV2 (c:=L[i].col) hE
  refine qr mixm (α:=Nat) [8] (fun n=>n≤decN s L[i]) (fun n=>[(8,vI n)]) (fun n=>[(4096,.arr 2 [schT s] false)]) (fun n=>decN s L[i] - n) 0 (by omega) ?_ fun n hn=>?_
  ·exact .oA [(4096,some 4096)] []
  have hwn:=qg (i:=n) (by omega)
  simp only [tZ,↓un_u,simprocAttr,Int.toNat_natCast,qd hi2,kW]
  refine ⟨by omega,?_⟩
  refine C1.im (qz6 s hE L[i] hnd ha n (by omega)) (by rfl) (by rfl) ?_
  simp only [tZ,↓un_u,simprocAttr,Bool.not_eq_true',Bool.not_eq_false',hwn]
  refine ⟨by kernel_rfl,fun h4=>?_,fun h4=>?_⟩
  ·have:n≠decN s L[i]:=fun e=>by rw [e,n2] at h4;cases h4
   refine ⟨n + 1,by omega,by omega,?_⟩
   exact .oA [(4096,some 4096)] []
  ·have:n = decN s L[i]:=by
    refine Nat.le_antisymm hn (Nat.le_of_not_lt fun e=>?_)
    rw [n3 n e] at h4;cases h4
   subst this
   simp only [tZ,↓un_u,simprocAttr,Int.toNat_natCast,qd hi2,kW]
   refine ⟨by omega,?_⟩
   refine C1.im (wS ((L.take i).foldl (zi2 s) []) L[i].col (decN s L[i]) (by simp at hlen;omega)) (by rfl) (by rfl) ?_
   simp only [tZ,↓un_u,simprocAttr,hwi]
   refine ⟨i + 1,by omega,by omega,?_⟩
   rw [qD hi2,List.foldl_append]
   show Le _ _ ⟨(5,vPs (KK ((L.take i).foldl (zi2 s) []) L[i].col (decN s L[i]))) :: _,_⟩
   exact .oA [(4096,some 4096)] []
 ·have hil:i = L.length:=by omega
  subst hil
  rw [List.take_length]
  exact .oA [] []
end Go.Proofs
namespace Go.Proofs
open Go Go.TL
set_option maxHeartbeats 4000000
theorem qm3 (s:Sch) (col kind:Int):Spc Tryz.prog JF [schT s,vI col,vI kind] [] (vB (isB s col kind)) []:=by
 by_cases h:0≤col∧col < s.cols.length
 ·obtain ⟨i,rfl⟩:=Int.eq_ofNat_of_zero_le h.1
  have hi:i < s.cols.length:=by omega
  have e1:decide ((i:Int)≥0) = true:=decide_eq_true (by omega)
  have e2:decide ((i:Int) < s.cols.length) = true:=decide_eq_true (by omega)
  have e3:isB s i kind = (s.cols[i].kind == kind):=by
   rw [isB,Int.toNat_natCast,qu,qj hi,decide_eq_true h.1,decide_eq_true h.2];rfl
  refine qe qb6 mixm (by simp) fun e _ hst=>qh ?_
  unfold Zj
  simp only [tZ,↓un_u,simprocAttr,e1,e2,Int.toNat_natCast,qd hi]
  rw [e3]
  refine ⟨by omega,?_⟩
  exact .oA [] []
 ·have e1:(decide (col≥0) && decide (col < (s.cols.length:Int))) = false:=by
   rw [Bool.and_eq_false_iff,decide_eq_false_iff_not,decide_eq_false_iff_not];omega
  have e3:isB s col kind = false:=by
   unfold isB
   rw [show (decide (0≤col) && decide (col < (s.cols.length:Int))) = false from e1];rfl
  rcases Nat.lt_or_ge col.toNat s.cols.length with hk | hk
  ·refine qe qb6 mixm (by simp) fun e _ hst=>qh ?_
   unfold Zj
   simp only [tZ,↓un_u,simprocAttr,e1,qd hk]
   rw [e3]
   exact .oA [] []
  ·have hj:(s.cols.map colT).getD col.toNat .junk = .junk:=yz hk
   refine qe qb6 mixm (by simp) fun e _ hst=>qh ?_
   unfold Zj
   simp only [tZ,↓un_u,simprocAttr,e1,hj,List.drop_succ_cons,List.drop_nil]
   rw [e3]
   exact .oA [] []
theorem zi3 (s:Sch) (hs:KJ s) (l:List Pk):Spc Tryz.prog Ww [schT s,vPs l] [] (vI (qr2 s l)) []:=by
 refine qe qT7 mixm (by simp) fun e _ hst=>qh ?_
 unfold KE
 refine sD ?_
 refine ⟨fun h=>?_,fun h=>?_⟩
 ·rw [qr2,if_pos (by omega)]
  exact .oA [] []
 rw [qr2,if_neg (by omega)]
 refine qr mixm (α:=Nat) [5,15] (fun i=>i≤l.length∧jw (dimE s l) i = 0) (fun i=>[(5,vI i)]) (fun i=>[(4096,.arr 2 [schT s] false)]) (fun i=>l.length - i) 0 ⟨by omega,rfl⟩ ?_ fun i hi=>?_
 ·exact .oA [(4096,some 4096)] []
 refine sD ?_
 refine ⟨fun h3=>?_,fun h3=>?_⟩
 ·have hi2:i < l.length:=by omega
  have hwi:=qg (i:=i) (by omega)
  have hpi:pkAt l i = l[i]:=by rw [pkAt,qj hi2]
  have hstep:=JN hi.2 hi2
  have hnext:=kZ hi.2
  have hA:dimE s l i = if Wb s l[i]≠0 then Wb s l[i] else if isB s l[i].col 2 = false then 7 else if ((l.take i).any fun x=>x.col == l[i].col) = true then 10 else 0:=by rw [dimE,hpi]
  simp only [tZ,↓un_u,simprocAttr,Int.toNat_natCast,qd hi2]
  refine ⟨by omega,?_⟩
  refine C1.im (qo7 s hs l[i]) (by rfl) (by rfl) ?_
  simp only [tZ,↓un_u,simprocAttr,bne_iff_ne,bne_eq_false_iff_eq]
  refine ⟨by kernel_rfl,fun h4=>?_,fun h4=>?_⟩
  ·rw [if_pos h4] at hA
   rw [hstep (by rw [hA];exact h4),hA]
   exact .oA [] []
  rw [if_neg (by rw [h4];simp)] at hA
  simp only [tZ,↓un_u,simprocAttr,Int.toNat_natCast,qd hi2]
  refine ⟨by omega,?_⟩
  refine C1.im (qm3 s l[i].col 2) (by rfl) (by rfl) ?_
  simp only [tZ,↓un_u,simprocAttr,Bool.not_eq_true',Bool.not_eq_false']
  refine ⟨by kernel_rfl,fun h5=>?_,fun h5=>?_⟩
  ·rw [if_pos h5] at hA
   rw [hstep (by rw [hA];simp),hA]
   exact .oA [] []
  rw [if_neg (by rw [h5];simp)] at hA
  refine qr mixm (α:=Nat) [7] (fun k=>k≤i∧(l.take k).any (fun x=>x.col == l[i].col) = false) (fun k=>[(7,vI k)]) (fun k=>[(4096,.arr 2 [schT s] false)]) (fun k=>i - k) 0 ⟨by omega,rfl⟩ ?_ fun k hk=>?_
  ·exact .oA [(4096,some 4096)] []
  refine sD ?_
  refine ⟨fun h6=>?_,fun h6=>?_⟩
  ·have hk2:k < l.length:=by omega
   have hwk:=qg (i:=k) (by omega)
   simp only [tZ,↓un_u,simprocAttr,Int.toNat_natCast,qd hi2,qd hk2,hwk]
   refine ⟨by omega,by omega,by kernel_rfl,fun h7=>?_,fun h7=>?_⟩
   ·rw [if_pos (List.any_eq_true.2 ⟨l[k],List.mem_take_iff_getElem.2 ⟨k,by omega,rfl⟩,h7⟩)] at hA
    rw [hstep (by rw [hA];simp),hA]
    exact .oA [] []
   ·refine ⟨k + 1,⟨by omega,zP hk2 hk.2 h7⟩,by omega,?_⟩
    exact .oA [(4096,some 4096)] []
  ·have hki:k = i:=by omega
   subst hki
   rw [if_neg (by rw [hk.2];simp)] at hA
   simp only [tZ,↓un_u,simprocAttr,hwi]
   refine ⟨k + 1,⟨by omega,by rw [hnext,hA]⟩,by omega,?_⟩
   exact .oA [(4096,some 4096)] []
 ·have hil:i = l.length:=by omega
  subst hil
  rw [hi.2]
  exact .oA [] []
theorem qV7 (s:Sch) (m:Int) (l:List Int):Spc Tryz.prog Kj [schT s,vI m,vIs l] [] (vI (WR s m l)) []:=by
 refine qe qH5 mixm (by simp) fun e _ hst=>qh ?_
 unfold Jt
 refine sD ?_
 refine ⟨fun h=>?_,fun h=>?_⟩
 ·rw [WR,if_pos (by omega)]
  exact .oA [] []
 rw [WR,if_neg (by omega)]
 refine qr mixm (α:=Nat) [7,15] (fun i=>i≤l.length∧jw (zW0 s m l) i = 0) (fun i=>[(7,vI i)]) (fun i=>[(4096,.arr 2 [schT s] false)]) (fun i=>l.length - i) 0 ⟨by omega,rfl⟩ ?_ fun i hi=>?_
 ·exact .oA [(4096,some 4096)] []
 refine sD ?_
 refine ⟨fun h3=>?_,fun h3=>?_⟩
 ·have hi2:i < l.length:=by omega
  have hwi:=qg (i:=i) (by omega)
  have hpi:l.getD i 0 = l[i]:=qj hi2
  have hstep:=JN hi.2 hi2
  have hnext:=kZ hi.2
  have hA:zW0 s m l i = if isB s l[i] 3 = false then 7 else if l[i] = m∨(l.take i).contains l[i] = true then 10 else 0:=by rw [zW0,hpi]
  have hH:=yn (l.take i) l[i] (by rw [List.length_take];omega)
  simp only [tZ,↓un_u,simprocAttr,Int.toNat_natCast,qd hi2]
  refine ⟨by omega,?_⟩
  refine C1.im (qm3 s l[i] 3) (by rfl) (by rfl) ?_
  simp only [tZ,↓un_u,simprocAttr,Bool.not_eq_true',Bool.not_eq_false']
  refine ⟨by kernel_rfl,fun h5=>?_,fun h5=>?_⟩
  ·rw [if_pos h5] at hA
   rw [hstep (by rw [hA];simp),hA]
   exact .oA [] []
  rw [if_neg (by rw [h5];simp)] at hA
  simp only [tZ,↓un_u,simprocAttr,Int.toNat_natCast,qd hi2,zm5,jn8]
  refine ⟨by omega,fun _=>by omega,fun _=>by omega,?_⟩
  refine C2.im (fun _=>hH) (fun _=>rfl) (by rfl) ?_
  simp only [tZ,↓un_u,simprocAttr,tD,beq_iff_eq,beq_eq_false_iff_ne,hwi]
  refine ⟨by kernel_rfl,fun h6=>?_,fun h6=>?_⟩
  ·rw [if_pos h6] at hA
   rw [hstep (by rw [hA];simp),hA]
   exact .oA [] []
  ·rw [if_neg (by grind)] at hA
   refine ⟨i + 1,⟨by omega,by rw [hnext,hA]⟩,by omega,?_⟩
   exact .oA [(4096,some 4096)] []
 ·have hil:i = l.length:=by omega
  subst hil
  rw [hi.2]
  exact .oA [] []
theorem zi4 (c:Cnd):Spc Tryz.prog Wt [cnT c] [] (vB (qy9 c cnd0)) []:=by
 have h:=zi1 c cnd0 fun h=>.mk c (by rw [h];decide) (by rw [List.length_eq_zero_iff.1 (show c.kids.length = 0 from h)];simp)
 refine qe qS7 mixm (by simp) fun e _ hst=>qh ?_
 unfold Kz
 refine sW ?_
 refine C1.shut [] h ?_ (by rfl) rfl ?_
 ·all_goals (try exact clA)
 refine sW ?_
 exact .oA [] []
theorem qV8 (s:Sch) (hE:schE s = 0) (hL:0 < s.lists.length) (q:Qst):Spc Tryz.prog Kh [schT s,qstT q] [] (vI (JO s q)) []:=by
 have hok:=qT hE
 refine qe qG5 mixm (by simp) fun e _ hst=>qh ?_
 unfold Jm
 refine sW ?_
 refine C1.im (qm3 s q.meas 3) (by rfl) (by rfl) ?_
 simp only [tZ,↓un_u,simprocAttr,beq_iff_eq,beq_eq_false_iff_ne]
 refine ⟨fun h=>?_,fun h=>?_⟩
 ·rw [JO,if_pos h]
  refine C1.im (zi3 s hok.sm q.dims) (by rfl) (by rfl) ?_
  simp only [tZ,↓un_u,simprocAttr,bne_iff_ne,bne_eq_false_iff_eq]
  refine ⟨fun h2=>?_,fun h2=>?_⟩
  ·rw [if_pos h2]
   exact .oA [] []
  rw [if_neg (by rw [h2];simp)]
  simp only [tZ,↓un_u,simprocAttr,bne_iff_ne,bne_eq_false_iff_eq,tD,Bool.not_eq_true',Bool.not_eq_false']
  refine ⟨fun h3=>?_,fun h3=>?_⟩
  ·rw [if_pos h3]
   exact .oA [] []
  ·rw [if_neg (by grind)]
   exact .oA [] []
 rw [JO,if_neg h]
 refine ⟨fun h2=>?_,fun h2=>?_⟩
 ·rw [if_pos h2]
  simp only [tZ,↓un_u,simprocAttr,Bool.not_eq_true',Bool.not_eq_false']
  refine ⟨fun h3=>?_,fun h3=>?_⟩
  ·rw [if_pos h3]
   exact .oA [] []
  rw [if_neg (by rw [h3];simp)]
  refine C1.im (qV7 s q.meas q.terms) (by rfl) (by rfl) ?_
  refine sW ?_
  exact .oA [] []
 rw [if_neg h2]
 simp only [tZ,↓un_u,simprocAttr,Bool.not_eq_true',Bool.not_eq_false']
 refine ⟨fun h3=>?_,fun h3=>?_⟩
 ·rw [if_pos h3]
  exact .oA [] []
 rw [if_neg (by rw [h3];simp)]
 obtain ⟨b1,b2,b3⟩:=jm.1 h3
 have hil:q.meas.toNat < s.cols.length:=by omega
 rw [qu,qj hil]
 simp only [tZ,↓un_u,simprocAttr,qd hil,tD]
 refine ⟨by omega,fun h4=>?_,fun h4=>?_⟩
 ·rw [if_pos h4]
  exact .oA [] []
 rw [if_neg h4]
 refine C1.im (wR s hok.sm hL q.event) (by rfl) (by rfl) ?_
 refine sW ?_
 exact .oA [] []
theorem Qa (s:Sch) (hs:KJ s) (hL:0 < s.lists.length) (q:Qst):Spc Tryz.prog ju [schT s,qstT q] [] (vI (qstE s q)) []:=by
 refine qe ql9 mixm (by simp) fun e _ hst=>qh ?_
 unfold ym
 refine sW ?_
 refine C1.im (zS s hs) (by rfl) (by rfl) ?_
 simp only [tZ,↓un_u,simprocAttr,bne_iff_ne,bne_eq_false_iff_eq]
 refine ⟨fun h=>?_,fun h=>?_⟩
 ·rw [qstE,if_pos h]
  exact .oA [] []
 rw [qstE,if_neg (by rw [h];simp)]
 refine C1.im (we q.name) (by rfl) (by rfl) ?_
 simp only [tZ,↓un_u,simprocAttr,Bool.not_eq_true',Bool.not_eq_false']
 refine ⟨fun h2=>?_,fun h2=>?_⟩
 ·rw [if_pos h2]
  exact .oA [] []
 rw [if_neg (by rw [h2];simp)]
 refine sD ?_
 refine ⟨fun h3=>?_,fun h3=>?_⟩
 ·rw [if_pos (by omega)]
  exact .oA [] []
 rw [if_neg (by omega)]
 refine C1.im (wR s hs hL q.filt) (by rfl) (by rfl) ?_
 simp only [tZ,↓un_u,simprocAttr,bne_iff_ne,bne_eq_false_iff_eq]
 refine ⟨fun h4=>?_,fun h4=>?_⟩
 ·rw [if_pos h4]
  exact .oA [] []
 rw [if_neg (by rw [h4];simp)]
 refine C1.im (qV8 s h hL q) (by rfl) (by rfl) ?_
 simp only [tZ,↓un_u,simprocAttr,bne_iff_ne,bne_eq_false_iff_eq]
 refine ⟨fun h5=>?_,fun h5=>?_⟩
 ·rw [if_pos h5]
  exact .oA [] []
 rw [if_neg (by rw [h5];simp)]
 refine C2.im (fun _=>zi4 q.event) (fun _=>rfl) (by rfl) ?_
 simp only [tZ,↓un_u,simprocAttr,tD,bne_iff_ne,bne_eq_false_iff_eq,Bool.not_eq_true',Bool.not_eq_false']
 refine ⟨fun h6=>?_,fun h6=>?_⟩
 ·rw [if_pos (by grind)]
  exact .oA [] []
 ·rw [if_neg (by grind)]
  exact .oA [] []
theorem KM (s:Sch) (hs:KJ s) (hL:0 < s.lists.length) (d:Dcl):Spc Tryz.prog wx [schT s,dclT d] [] (vI (dclE s d)) []:=by
 refine qe qC5 mixm (by simp) fun e _ hst=>qh ?_
 unfold ZS
 refine sW ?_
 refine C1.im (zS s hs) (by rfl) (by rfl) ?_
 simp only [tZ,↓un_u,simprocAttr,bne_iff_ne,bne_eq_false_iff_eq]
 refine ⟨fun h=>?_,fun h=>?_⟩
 ·rw [dclE,if_pos h]
  exact .oA [] []
 rw [dclE,if_neg (by rw [h];simp)]
 refine C1.im (we d.proj) (by rfl) (by rfl) ?_
 refine sW ?_
 refine C2.im (fun _=>we d.src) (fun _=>rfl) (by rfl) ?_
 simp only [tZ,↓un_u,simprocAttr,tD,Bool.not_eq_true',Bool.not_eq_false']
 refine ⟨fun h2=>?_,fun h2=>?_⟩
 ·rw [if_pos h2]
  exact .oA [] []
 rw [if_neg (by grind)]
 refine C1.im (wR s hs hL d.coh) (by rfl) (by rfl) ?_
 simp only [tZ,↓un_u,simprocAttr,bne_iff_ne,bne_eq_false_iff_eq]
 refine ⟨fun h3=>?_,fun h3=>?_⟩
 ·rw [if_pos h3]
  exact .oA [] []
 rw [if_neg (by rw [h3];simp)]
 refine sD ?_
 refine ⟨fun h4=>?_,fun h4=>?_⟩
 ·rw [if_pos (by unfold smpE;grind)]
  exact .oA [] []
 rw [if_neg (by unfold smpE;grind)]
 refine ⟨fun h5=>?_,fun h5=>?_⟩
 ·rw [if_pos (by omega)]
  exact .oA [] []
 rw [if_neg (by omega)]
 refine qr mixm (α:=Nat) [8,74] (fun i=>i≤d.qs.length∧jw (qsE s d.qs) i = 0) (fun i=>[(8,vI i)]) (fun i=>[(4096,.arr 2 [schT s] false),(4100,.arr 12 [dclT d] false)]) (fun i=>d.qs.length - i) 0 ⟨by omega,rfl⟩ ?_ fun i hi=>?_
 ·exact .oA [(4096,some 4096),(4100,some 4100)] []
 refine sD ?_
 refine ⟨fun h6=>?_,fun h6=>?_⟩
 ·have hi2:i < d.qs.length:=by omega
  have hwi:=qg (i:=i) (by omega)
  have hpi:qAt d.qs i = d.qs[i]:=by rw [qAt,qj hi2]
  have hstep:=JN hi.2 hi2
  have hnext:=kZ hi.2
  have hA:qsE s d.qs i = if qstE s d.qs[i]≠0 then qstE s d.qs[i] else if ((d.qs.take i).any fun x=>eqB x.name d.qs[i].name) = true then 10 else 0:=by rw [qsE,hpi]
  simp only [tZ,↓un_u,simprocAttr,Int.toNat_natCast,qd hi2]
  refine ⟨by omega,?_⟩
  refine C1.im (Qa s hs hL d.qs[i]) (by rfl) (by rfl) ?_
  simp only [tZ,↓un_u,simprocAttr,bne_iff_ne,bne_eq_false_iff_eq]
  refine ⟨by kernel_rfl,fun h7=>?_,fun h7=>?_⟩
  ·rw [if_pos h7] at hA
   rw [hstep (by rw [hA];exact h7),hA]
   exact .oA [] []
  rw [if_neg (by rw [h7];simp)] at hA
  refine qr mixm (α:=Nat) [10] (fun k=>k≤i∧(d.qs.take k).any (fun x=>eqB x.name d.qs[i].name) = false) (fun k=>[(10,vI k)]) (fun k=>[(4096,.arr 2 [schT s] false),(4100,.arr 12 [dclT d] false)]) (fun k=>i - k) 0 ⟨by omega,rfl⟩ ?_ fun k hk=>?_
  ·exact .oA [(4096,some 4096),(4100,some 4100)] []
  refine sD ?_
  refine ⟨fun h8=>?_,fun h8=>?_⟩
  ·have hk2:k < d.qs.length:=by omega
   have hwk:=qg (i:=k) (by omega)
   simp only [tZ,↓un_u,simprocAttr,Int.toNat_natCast,qd hi2,qd hk2,hwk]
   refine ⟨by omega,by omega,by kernel_rfl,fun h9=>?_,fun h9=>?_⟩
   ·rw [if_pos (List.any_eq_true.2 ⟨d.qs[k],List.mem_take_iff_getElem.2 ⟨k,by omega,rfl⟩,h9⟩)] at hA
    rw [hstep (by rw [hA];simp),hA]
    exact .oA [] []
   ·refine ⟨k + 1,⟨by omega,zP hk2 hk.2 h9⟩,by omega,?_⟩
    exact .oA [(4096,some 4096),(4100,some 4100)] []
  ·have hki:k = i:=by omega
   subst hki
   rw [if_neg (by rw [hk.2];simp)] at hA
   simp only [tZ,↓un_u,simprocAttr,hwi]
   refine ⟨k + 1,⟨by omega,by rw [hnext,hA]⟩,by omega,?_⟩
   exact .oA [(4096,some 4096),(4100,some 4100)] []
 ·have hil:i = d.qs.length:=by omega
  subst hil
  rw [hi.2]
  exact .oA [] []
end Go.Proofs
namespace Go.Proofs
open Go Go.TL
set_option maxHeartbeats 4000000
theorem zi5 (q:Qst) (k:Int) (ht:q.terms.length < 4611686018427387904):Spc Tryz.prog Wr [qstT q,vI k] [] (vB (jf6 q k)) []:=by
 refine qe qS0 mixm (by simp) fun e _ hst=>qh ?_
 unfold Ku
 refine sW ?_
 refine C2.im (fun _=>yn q.terms k ht) (fun _=>rfl) (by rfl) ?_
 refine sW ?_
 rw [show (q.meas == k || q.terms.contains k) = jf6 q k from rfl]
 exact .oA [] []
theorem WU:∀ (m l:List Pk),(WS l m).length≤l.length + m.length
 | [],l=>Nat.le_refl _
 | p :: m,l=>by
   have h1:=WU m (KK l p.col p.lev)
   have h2:=qh7 l p.col p.lev
   unfold WS at h1 ⊢
   rw [List.foldl_cons,List.length_cons]
   omega
theorem qN0 (l m:List Pk) (p:Pk):WS l (m ++ [p]) = KK (WS l m) p.col p.lev:=by rw [WS,List.foldl_append];rfl
theorem qh9 (s:Sch) (c:Cnd):(yZ s c).length≤40:=by
 unfold yZ
 split
 ·simp
 ·rename_i h
  obtain ⟨hE,k2,k3,k4⟩:=zp6 (Classical.byContradiction h)
  have h1:=zp7 c 41 (by omega) k2
  have h2:=qz8 s (atsC c) []
  simp only [List.length_nil] at h2
  unfold zi2 at h2
  omega
structure QstOk (s:Sch) (q:Qst):Prop where
 sch:schE s = 0
 kind:1≤q.kind∧q.kind≤3
 filt:chkC s q.filt = 0
 dims:q.kind = 1→qr2 s q.dims = 0∧(q.meas = -1∨isB s q.meas 3 = true)
 nd:q.dims.length≤3
 terms:q.kind = 2→isB s q.meas 3 = true∧WR s q.meas q.terms = 0
 nt:q.terms.length≤3
 event:q.kind = 3→isB s q.meas 3 = true∧0≤(qu s q.meas.toNat).low∧chkC s q.event = 0
 d0:q.kind≠1→q.dims = []
 t0:q.kind≠2→q.terms = []
 e0:q.kind≠3→qy9 q.event cnd0 = true
theorem zW5 {s:Sch} {q:Qst} (h:qstE s q = 0):QstOk s q:=by
 unfold qstE at h
 split at h
 ·rename_i h1;exact absurd h h1
 rename_i h1
 split at h
 ·cases h
 rename_i h2
 split at h
 ·cases h
 rename_i h3
 split at h
 ·rename_i h4;exact absurd h h4
 rename_i h4
 split at h
 ·rename_i h5;exact absurd h h5
 rename_i h5
 split at h
 ·cases h
 rename_i h6
 have hp:JO s q = 0:=Classical.byContradiction h5
 unfold JO at hp
 have hd:q.kind = 1→qr2 s q.dims = 0∧(q.meas = -1∨isB s q.meas 3 = true):=fun k=>by
  rw [if_pos k] at hp
  grind
 have ht:q.kind = 2→isB s q.meas 3 = true∧WR s q.meas q.terms = 0:=fun k=>by
  rw [if_neg (by omega),if_pos k] at hp
  grind
 have hd0:q.kind≠1→q.dims = []:=fun k=>List.length_eq_zero_iff.1 (by omega)
 have ht0:q.kind≠2→q.terms = []:=fun k=>List.length_eq_zero_iff.1 (by omega)
 refine ⟨Classical.byContradiction h1,by omega,Classical.byContradiction h4,hd,?_,ht,?_,fun k=>?_,hd0,ht0,fun k=>?_⟩
 ·by_cases k:q.kind = 1
  ·have:=(hd k).1
   unfold qr2 at this
   grind
  ·rw [hd0 k];simp
 ·by_cases k:q.kind = 2
  ·have:=(ht k).2
   unfold WR at this
   grind
  ·rw [ht0 k];simp
 ·rw [if_neg (by omega),if_neg (by omega)] at hp
  grind
 ·grind
theorem Yh (s:Sch):∀ (m l:List Pk),(m.foldl (fun l p=>KK l p.col (Zm s p.col p.lev)) l).length≤l.length + m.length
 | [],l=>Nat.le_refl _
 | p :: m,l=>by
   have h1:=Yh s m (KK l p.col (Zm s p.col p.lev))
   have h2:=qh7 l p.col (Zm s p.col p.lev)
   rw [List.foldl_cons,List.length_cons]
   omega
theorem qm4 (s:Sch) (q:Qst):∀ (m:List Nat) (l:List Pk),(m.foldl (Qe s q) l).length≤l.length + m.length
 | [],l=>Nat.le_refl _
 | k :: m,l=>by
   have h1:=qm4 s q m (Qe s q l k)
   have h2:(Qe s q l k).length≤l.length + 1:=by
    unfold Qe
    split
    ·exact qh7 _ _ _
    ·omega
   rw [List.foldl_cons,List.length_cons]
   omega
def qN1 (s:Sch) (q:Qst):List Pk:=if q.kind = 3 then WS (yZ s q.filt) (yZ s q.event) else yZ s q.filt
theorem qN2 (s:Sch) (q:Qst):(qN1 s q).length≤80:=by
 have h1:=qh9 s q.filt
 have h2:=qh9 s q.event
 have h3:=WU (yZ s q.event) (yZ s q.filt)
 unfold qN1
 split <;> omega
theorem qz9 (s:Sch) (q:Qst):(qh3 s q).length≤100:=by
 unfold qh3 jx5
 split
 ·simp
 ·rename_i h
  have hq:=zW5 (Classical.byContradiction h)
  have h1:=qN2 s q
  unfold qN1 at h1
  have h2:=Yh s q.dims (if q.kind = 3 then WS (yZ s q.filt) (yZ s q.event) else yZ s q.filt)
  have h3:=qm4 s q (List.range (s.cols.length - 1)) (q.dims.foldl (fun l p=>KK l p.col (Zm s p.col p.lev)) (if q.kind = 3 then WS (yZ s q.filt) (yZ s q.event) else yZ s q.filt))
  have h4:=(qT hq.sch).nc
  have h5:=hq.nd
  rw [List.length_range] at h3
  omega
theorem qi0 (s:Sch) (hs:KJ s) (hL:0 < s.lists.length) (q:Qst):Spc Tryz.prog Ql [schT s,qstT q] [] (vPs (qh3 s q)) []:=by
 refine qe qC7 mixm (by simp) fun e _ hst=>qh ?_
 unfold ZT
 refine sW ?_
 refine C1.im (Qa s hs hL q) (by rfl) (by rfl) ?_
 simp only [tZ,↓un_u,simprocAttr,bne_iff_ne,bne_eq_false_iff_eq]
 refine ⟨fun h=>?_,fun h=>?_⟩
 ·rw [qh3,if_pos h]
  exact .oA [] []
 have hq:=zW5 h
 have hnc:=(qT hq.sch).nc
 have hnd:=hq.nd
 have hnt:=hq.nt
 have hN:qh3 s q = (List.range (s.cols.length - 1)).foldl (Qe s q) (q.dims.foldl (fun l p=>KK l p.col (Zm s p.col p.lev)) (qN1 s q)):=by
  rw [qh3,if_neg (by rw [h];simp)];rfl
 have h0:=qN2 s q
 have hQ0:qN1 s q = if q.kind = 3 then WS (yZ s q.filt) (yZ s q.event) else yZ s q.filt:=rfl
 rw [hN]
 generalize qN1 s q = A at h0 hQ0 ⊢
 refine C1.im (qh8 s hs hL q.filt) (by rfl) (by rfl) ?_
 have hcl:=qh9 s q.filt
 generalize yZ s q.filt = C at hQ0 hcl ⊢
 simp only [tZ,↓un_u,simprocAttr,beq_iff_eq,beq_eq_false_iff_ne]
 apply mid
 ·intro hmain
  refine ⟨fun h1=>?_,fun h1=>?_⟩
  ·rw [if_pos h1] at hQ0
   refine C1.im (qh8 s hs hL q.event) (by rfl) (by rfl) ?_
   have hel:=qh9 s q.event
   generalize yZ s q.event = V at hQ0 hel ⊢
   refine sW ?_
   refine qr mixm (α:=Nat) [5,7,20] (fun i=>i≤V.length) (fun i=>[(5,vPs (WS C (V.take i))),(7,vI i)]) (fun i=>[(4096,.arr 2 [schT s] false),(4100,.arr 17 [qstT q] false)]) (fun i=>V.length - i) 0 (by omega) ?_ fun i hi=>?_
   ·exact .oA [(4096,some 4096),(4100,some 4100)] []
   have hrl:=WU (V.take i) C
   rw [List.length_take] at hrl
   refine sD ?_
   refine ⟨fun h3=>?_,fun h3=>?_⟩
   ·have hi2:i < V.length:=by omega
    have hwi:=qg (i:=i) (by omega)
    simp only [tZ,↓un_u,simprocAttr,Int.toNat_natCast,qd hi2]
    refine ⟨by omega,by omega,?_⟩
    refine C1.im (wS (WS C (V.take i)) V[i].col V[i].lev (by omega)) (by rfl) (by rfl) ?_
    simp only [tZ,↓un_u,simprocAttr,hwi]
    refine ⟨by kernel_rfl,i + 1,by omega,by omega,?_⟩
    rw [qD hi2,qN0]
    exact .oA [(4096,some 4096),(4100,some 4100)] []
   ·have hil:i = V.length:=by omega
    subst hil
    rw [List.take_length,← hQ0]
    exact hmain
  ·rw [if_neg h1] at hQ0
   rw [← hQ0]
   exact hmain
 ·clear hQ0
  refine qr mixm (α:=Nat) [5,8] (fun i=>i≤q.dims.length) (fun i=>[(5,vPs ((q.dims.take i).foldl (fun l p=>KK l p.col (Zm s p.col p.lev)) A)),(8,vI i)]) (fun i=>[(4096,.arr 2 [schT s] false),(4100,.arr 17 [qstT q] false)]) (fun i=>q.dims.length - i) 0 (by omega) ?_ fun i hi=>?_
  ·exact .oA [(4096,some 4096),(4100,some 4100)] []
  have hrl:=Yh s (q.dims.take i) A
  rw [List.length_take] at hrl
  refine sD ?_
  refine ⟨fun h3=>?_,fun h3=>?_⟩
  ·have hi2:i < q.dims.length:=by omega
   have hwi:=qg (i:=i) (by omega)
   simp only [tZ,↓un_u,simprocAttr,Int.toNat_natCast,qd hi2]
   refine ⟨by omega,by omega,by omega,?_⟩
   refine C1.im (qh6 s hs q.dims[i].col q.dims[i].lev) (by rfl) (by rfl) ?_
   refine sW ?_
   refine C1.im (wS _ q.dims[i].col (Zm s q.dims[i].col q.dims[i].lev) (by omega)) (by rfl) (by rfl) ?_
   simp only [tZ,↓un_u,simprocAttr,hwi]
   refine ⟨by kernel_rfl,i + 1,by omega,by omega,?_⟩
   rw [qD hi2,List.foldl_append]
   simp only [List.foldl_cons,List.foldl_nil]
   exact .oA [(4096,some 4096),(4100,some 4100)] []
  ·have hil:i = q.dims.length:=by omega
   subst hil
   rw [List.take_length]
   have hB:=Yh s q.dims A
   generalize q.dims.foldl (fun l p=>KK l p.col (Zm s p.col p.lev)) A = B at hB ⊢
   refine qr mixm (α:=Nat) [5,9] (fun i=>i≤s.cols.length - 1) (fun i=>[(5,vPs ((List.range i).foldl (Qe s q) B)),(9,vI ((i + 1:Nat):Int))]) (fun i=>[(4096,.arr 2 [schT s] false),(4100,.arr 17 [qstT q] false)]) (fun i=>s.cols.length - 1 - i) 0 (by omega) ?_ fun i hi=>?_
   ·exact .oA [(4096,some 4096),(4100,some 4100)] []
   have hrl:=qm4 s q (List.range i) B
   rw [List.length_range] at hrl
   have hsu:(List.range (i + 1)).foldl (Qe s q) B = Qe s q ((List.range i).foldl (Qe s q) B) i:=by rw [List.range_succ,List.foldl_append];rfl
   have hwi:=qg (i:=i + 1) (by omega)
   have hU:=zi5 q ((i + 1:Nat):Int) (by omega)
   refine sD ?_
   refine ⟨fun h3=>?_,fun h3=>?_⟩
   ·refine C1.im hU (by rfl) (by rfl) ?_
    refine sW ?_
    refine ⟨fun h4=>?_,fun h4=>?_⟩
    ·have hsu:(List.range (i + 1)).foldl (Qe s q) B = KK ((List.range i).foldl (Qe s q) B) ((i + 1:Nat):Int) (Zm s ((i + 1:Nat):Int) (finI s ((i + 1:Nat):Int))):=by
      rw [hsu,Qe]
      exact if_pos h4
     refine C1.im (kH s hs ((i + 1:Nat):Int)) (by rfl) (by rfl) ?_
     refine sW ?_
     refine C1.im (qh6 s hs ((i + 1:Nat):Int) (finI s ((i + 1:Nat):Int))) (by rfl) (by rfl) ?_
     refine sW ?_
     refine C1.im (wS _ ((i + 1:Nat):Int) (Zm s ((i + 1:Nat):Int) (finI s ((i + 1:Nat):Int))) (by omega)) (by rfl) (by rfl) ?_
     simp only [tZ,↓un_u,simprocAttr,hwi]
     refine ⟨by kernel_rfl,i + 1,by omega,by omega,?_⟩
     rw [hsu]
     exact .oA [(4096,some 4096),(4100,some 4100)] []
    ·have hsu:(List.range (i + 1)).foldl (Qe s q) B = (List.range i).foldl (Qe s q) B:=by
      rw [hsu,Qe]
      exact if_neg (by show ¬ jf6 q ((i + 1:Nat):Int) = true;rw [h4];simp)
     simp only [tZ,↓un_u,simprocAttr,hwi]
     refine ⟨i + 1,by omega,by omega,?_⟩
     rw [hsu]
     exact .oA [(4096,some 4096),(4100,some 4100)] []
   ·have hil:i = s.cols.length - 1:=by omega
    subst hil
    exact .oA [] []
theorem qA0 (s:Sch) (hs:KJ s) (hL:0 < s.lists.length) (q:Qst) (l:List Pk) (hl:l.length < 4611686018427387904):Spc Tryz.prog QO [schT s,qstT q,vPs l] [] (vB (sufB s q l)) []:=by
 have hnl:=qz9 s q
 refine qe qq1 mixm (by simp) fun e _ hst=>qh ?_
 unfold yQ
 refine sW ?_
 refine C1.im (Qa s hs hL q) (by rfl) (by rfl) ?_
 refine sW ?_
 refine C2.im (fun _=>qh5 s hs l hl) (fun _=>rfl) (by rfl) ?_
 refine sW ?_
 refine C2.im (fun _=>qi0 s hs hL q) (fun _=>rfl) (by rfl) ?_
 refine sW ?_
 refine C2.im (fun _=>qI2 (qh3 s q) l (by omega) hl) (fun _=>rfl) (by rfl) ?_
 refine sW ?_
 rw [show (qstE s q == 0 && WQ s l == 0 && covB (qh3 s q) l) = sufB s q l from rfl]
 exact .oA [] []
def qV9 (s:Sch):List Pk→Qst→List Pk:=fun l q=>WS l (qh3 s q)
theorem qA1 (s:Sch):∀ (m:List Qst) (l:List Pk),(m.foldl (qV9 s) l).length≤l.length + 100 * m.length
 | [],l=>Nat.le_refl _
 | q :: m,l=>by
   have h1:=qA1 s m (qV9 s l q)
   have h2:=WU (qh3 s q) l
   have h3:=qz9 s q
   rw [List.foldl_cons,List.length_cons]
   unfold qV9 at h1 ⊢
   omega
theorem zi6 (s:Sch) (d:Dcl):(qV1 s d).length≤800:=by
 unfold qV1
 split
 ·simp
 ·rename_i h
  have hd:=zp4 (Classical.byContradiction h)
  have:=qA1 s d.qs []
  simp only [List.length_nil] at this
  unfold qV9 at this
  omega
theorem zi7 (s:Sch) (hs:KJ s) (hL:0 < s.lists.length) (d:Dcl):Spc Tryz.prog Wq [schT s,dclT d] [] (.tup [vPs (qV1 s d),vI (dclE s d)]) []:=by
 refine qe qQ8 mixm (by simp) fun e _ hst=>qh ?_
 unfold Ko
 refine sW ?_
 refine C1.im (KM s hs hL d) (by rfl) (by rfl) ?_
 simp only [tZ,↓un_u,simprocAttr,bne_iff_ne,bne_eq_false_iff_eq]
 refine ⟨fun h=>?_,fun h=>?_⟩
 ·rw [qV1,if_pos h]
  exact .oA [] []
 obtain ⟨hE,_,_,_,_,hq1,hq2,_⟩:=zp4 h
 have hP:qV1 s d = d.qs.foldl (qV9 s) []:=by rw [qV1,if_neg (by rw [h];simp)];rfl
 rw [hP,h]
 refine qr mixm (α:=Nat) [7,8,6] (fun i=>i≤d.qs.length) (fun i=>[(7,vPs ((d.qs.take i).foldl (qV9 s) [])),(8,vI i)]) (fun i=>[(4096,.arr 2 [schT s] false),(4100,.arr 12 [dclT d] false)]) (fun i=>d.qs.length - i) 0 (by omega) ?_ fun i hi=>?_
 ·exact .oA [(4096,some 4096),(4100,some 4100)] []
 have hpl:=qA1 s (d.qs.take i) []
 rw [List.length_take,List.length_nil] at hpl
 refine sD ?_
 refine ⟨fun h3=>?_,fun h3=>?_⟩
 ·have hi2:i < d.qs.length:=by omega
  have hwi:=qg (i:=i) (by omega)
  have hsu:(d.qs.take (i + 1)).foldl (qV9 s) [] = WS ((d.qs.take i).foldl (qV9 s) []) (qh3 s d.qs[i]):=by rw [qD hi2,List.foldl_append];rfl
  simp only [tZ,↓un_u,simprocAttr,Int.toNat_natCast,qd hi2]
  refine ⟨by omega,?_⟩
  refine C1.im (qi0 s hs hL d.qs[i]) (by rfl) (by rfl) ?_
  have hnl:=qz9 s d.qs[i]
  generalize qh3 s d.qs[i] = V at hsu hnl ⊢
  generalize (d.qs.take i).foldl (qV9 s) [] = C at hsu hpl ⊢
  refine sW ?_
  refine ⟨by kernel_rfl,?_⟩
  refine qr mixm (α:=Nat) [7,10] (fun k=>k≤V.length) (fun k=>[(7,vPs (WS C (V.take k))),(10,vI k)]) (fun k=>[(4096,.arr 2 [schT s] false),(4100,.arr 12 [dclT d] false)]) (fun k=>V.length - k) 0 (by omega) ?_ fun k hk=>?_
  ·exact .oA [(4096,some 4096),(4100,some 4100)] []
  have hrl:=WU (V.take k) C
  rw [List.length_take] at hrl
  refine sD ?_
  refine ⟨fun h4=>?_,fun h4=>?_⟩
  ·have hk2:k < V.length:=by omega
   have hwk:=qg (i:=k) (by omega)
   simp only [tZ,↓un_u,simprocAttr,Int.toNat_natCast,qd hk2]
   refine ⟨by omega,by omega,?_⟩
   refine C1.im (wS (WS C (V.take k)) V[k].col V[k].lev (by omega)) (by rfl) (by rfl) ?_
   simp only [tZ,↓un_u,simprocAttr,hwk]
   refine ⟨by kernel_rfl,k + 1,by omega,by omega,?_⟩
   rw [qD hk2,qN0]
   exact .oA [(4096,some 4096),(4100,some 4100)] []
  ·have hkl:k = V.length:=by omega
   subst hkl
   rw [List.take_length,← hsu]
   simp only [tZ,↓un_u,simprocAttr,hwi]
   refine ⟨i + 1,by omega,by omega,?_⟩
   exact .oA [(4096,some 4096),(4100,some 4100)] []
 ·have hil:i = d.qs.length:=by omega
  subst hil
  rw [List.take_length]
  exact .oA [] []
theorem qW0 (s:Sch) (hs:KJ s) (hL:0 < s.lists.length) (d:Dcl) (l:List Pk) (hl:l.length < 4611686018427387904):Spc Tryz.prog Kd [schT s,dclT d,vPs l] [] (vI (zp5 s d l)) []:=by
 refine qe qD5 mixm (by simp) fun e _ hst=>qh ?_
 unfold ZX
 refine sW ?_
 refine C1.im (KM s hs hL d) (by rfl) (by rfl) ?_
 simp only [tZ,↓un_u,simprocAttr,bne_iff_ne,bne_eq_false_iff_eq]
 refine ⟨fun h=>?_,fun h=>?_⟩
 ·rw [zp5,if_pos h]
  exact .oA [] []
 obtain ⟨hE,_,_,_,_,hq1,hq2,_⟩:=zp4 h
 rw [zp5,if_neg (by rw [h];simp)]
 refine C1.im (qh5 s hs l hl) (by rfl) (by rfl) ?_
 simp only [tZ,↓un_u,simprocAttr,bne_iff_ne,bne_eq_false_iff_eq]
 refine ⟨fun h2=>?_,fun h2=>?_⟩
 ·rw [if_pos h2]
  exact .oA [] []
 rw [if_neg (by rw [h2];simp)]
 refine qr mixm (α:=Nat) [9,7,8] (fun i=>i≤d.qs.length∧jw (fun i=>if sufB s (qAt d.qs i) l = true then 0 else 23) i = 0) (fun i=>[(9,vI i)]) (fun i=>[(4096,.arr 2 [schT s] false),(4100,.arr 12 [dclT d] false)]) (fun i=>d.qs.length - i) 0 ⟨by omega,rfl⟩ ?_ fun i hi=>?_
 ·exact .oA [(4096,some 4096),(4100,some 4100)] []
 refine sD ?_
 refine ⟨fun h3=>?_,fun h3=>?_⟩
 ·have hi2:i < d.qs.length:=by omega
  have hwi:=qg (i:=i) (by omega)
  have hpi:qAt d.qs i = d.qs[i]:=by rw [qAt,qj hi2]
  have hstep:=JN hi.2 hi2
  have hnext:=kZ hi.2
  rw [hpi] at hstep hnext
  simp only [tZ,↓un_u,simprocAttr,Int.toNat_natCast,qd hi2]
  refine ⟨by omega,?_⟩
  refine C1.im (qA0 s hs hL d.qs[i] l hl) (by rfl) (by rfl) ?_
  simp only [tZ,↓un_u,simprocAttr,Bool.not_eq_true',Bool.not_eq_false',hwi]
  refine ⟨by kernel_rfl,fun h4=>?_,fun h4=>?_⟩
  ·rw [if_neg (by rw [h4];simp)] at hstep
   rw [hstep (by decide)]
   exact .oA [] []
  ·rw [if_pos h4] at hnext
   refine ⟨i + 1,⟨by omega,hnext⟩,by omega,?_⟩
   exact .oA [(4096,some 4096),(4100,some 4100)] []
 ·have hil:i = d.qs.length:=by omega
  subst hil
  rw [hi.2]
  exact .oA [] []
end Go.Proofs
namespace Go.Proofs
open Go Go.TL
def hd (r:List Int):Int:=r.getD 0 0
def putS (row:List Int):List (List Int)×Bool→List Int→List (List Int)×Bool:=fun x r=>
 if hd r = hd row then x
 else if hd r > hd row∧x.2 = false then (x.1 ++ [row] ++ [r],true)
 else (x.1 ++ [r],x.2)
def putR (l:List (List Int)) (row:List Int):List (List Int):=
 let x:=l.foldl (putS row) ([],false)
 if x.2 then x.1 else x.1 ++ [row]
def qA2 (l:List (List Int)) (id:Int):List (List Int):=l.filter fun r=>hd r != id
def atR (id:Int) (r:List Int):Bool:=decide (0 < r.length) && (hd r == id)
def qc0 (s:Src) (id:Int):Int:=if s.rows.any (atR id) = true then (s.rows.findIdx (atR id):Int) else -1
def asc2 (l:List Int) (i:Nat):Bool:=decide (i = 0) || decide (l.getD (i - 1) 0 < l.getD i 0)
def zW6 (s:Src):Bool:=(List.range s.rows.length).all fun i=>(rowE s.sch (s.rows.getD i []) == 0) && (decide (i = 0) || decide (hd (s.rows.getD (i - 1) []) < hd (s.rows.getD i [])))
def jo4 (s:Src):Bool:=(List.range s.gone.length).all fun i=>decide (1≤s.gone.getD i 0) && decide (s.gone.getD i 0≤1048575) && asc2 s.gone i && decide (qc0 s (s.gone.getD i 0) < 0)
def srcB (s:Src):Bool:=(schE s.sch == 0) && decide (s.rows.length≤200) && decide (s.gone.length≤300) && decide (0≤s.ver) && decide (s.ver≤300) && zW6 s && jo4 s
def putI (l:List Int) (n:Int):List Int:=So.insU So.ltI So.eqI2 l n
abbrev src0:Src:=⟨⟨[],[]⟩,[],[],0⟩
def wg (s:Src) (e:Edt):Int:=
 if srcB s = false∨s.ver = 300 then 13
 else if e.kind = 1∨e.kind = 2 then
  (if rowE s.sch e.row≠0 then rowE s.sch e.row else if s.gone.contains (hd e.row) = true then 20
   else if e.kind = 1∧0≤qc0 s (hd e.row) then 10 else if e.kind = 1∧s.rows.length = 200 then 1
   else if e.kind = 2∧qc0 s (hd e.row) < 0 then 19 else 0)
 else if e.kind = 3 then (if qc0 s e.id < 0 then 19 else 0)
 else if e.kind = 4 then (if e.id < 1∨e.id > 1048575 then 2 else if s.gone.contains e.id = true then 20 else 0)
 else 4
def qi1 (s:Src) (e:Edt):List (List Int):=if e.kind = 1∨e.kind = 2 then putR s.rows e.row else qA2 s.rows e.id
def Qf (s:Src) (e:Edt):Src:=if wg s e≠0 then src0 else ⟨s.sch,qi1 s e,if e.kind = 4 then putI s.gone e.id else s.gone,s.ver + 1⟩
def atS:Src→List Edt→Src×Int
 | s,[]=>(s,0)
 | s,e :: l=>if wg s e≠0 then (src0,wg s e) else atS (Qf s e) l
end Go.Proofs
namespace Go.Proofs
open Go Go.TL
def AscR (l:List (List Int)):Prop:=l.Pairwise fun a b=>hd a < hd b
theorem zi8 {row:List Int}:∀ (l acc:List (List Int)),(∀ r∈l,hd row < hd r)→l.foldl (putS row) (acc,true) = (acc ++ l,true)
 | [],acc,_=>by simp
 | r :: l,acc,h=>by
   have h1:=h r (by simp)
   have e:putS row (acc,true) r = (acc ++ [r],true):=by
    unfold putS
    rw [if_neg (by omega),if_neg (by simp)]
   rw [List.foldl_cons,e,zi8 l _ fun x hx=>h x (List.mem_cons_of_mem _ hx)]
   simp
theorem qm5 {row:List Int}:∀ (l acc:List (List Int)),AscR l→l.foldl (putS row) (acc,false) =
 if (l.any fun r=>decide (hd row < hd r)) = true then (acc ++ l.filter (fun r=>decide (hd r < hd row)) ++ row :: l.filter (fun r=>decide (hd row < hd r)),true)
 else (acc ++ l.filter (fun r=>decide (hd r < hd row)),false)
 | [],acc,_=>by simp
 | r :: l,acc,h=>by
   obtain ⟨h1,h2⟩:=List.pairwise_cons.1 h
   rw [List.foldl_cons]
   by_cases e1:hd r = hd row
   ·have e:putS row (acc,false) r = (acc,false):=by unfold putS;rw [if_pos e1]
    have d1:decide (hd row < hd r) = false:=by simp;omega
    have d2:decide (hd r < hd row) = false:=by simp;omega
    rw [e,qm5 l acc h2,List.any_cons,List.filter_cons,List.filter_cons,d1,d2]
    simp
   ·by_cases e2:hd r > hd row
    ·have e:putS row (acc,false) r = (acc ++ [row] ++ [r],true):=by unfold putS;rw [if_neg e1,if_pos ⟨e2,rfl⟩]
     have hall:∀ x∈l,hd row < hd x:=fun x hx=>by have:=h1 x hx;omega
     have d1:decide (hd row < hd r) = true:=by simp;omega
     have d2:decide (hd r < hd row) = false:=by simp;omega
     have f1:l.filter (fun r=>decide (hd row < hd r)) = l:=List.filter_eq_self.2 fun x hx=>by simpa using hall x hx
     have f2:l.filter (fun r=>decide (hd r < hd row)) = []:=List.filter_eq_nil_iff.2 fun x hx=>by have:=hall x hx;simp;omega
     rw [e,zi8 l _ hall,List.any_cons,List.filter_cons,List.filter_cons,d1,d2,f1,f2]
     simp
    ·have e:putS row (acc,false) r = (acc ++ [r],false):=by
      unfold putS
      rw [if_neg e1,if_neg (fun k=>e2 k.1)]
     have d1:decide (hd row < hd r) = false:=by simp;omega
     have d2:decide (hd r < hd row) = true:=by simp;omega
     rw [e,qm5 l _ h2,List.any_cons,List.filter_cons,List.filter_cons,d1,d2]
     simp
theorem zp8 {l:List (List Int)} {row:List Int} (h:AscR l):putR l row = l.filter (fun r=>decide (hd r < hd row)) ++ row :: l.filter (fun r=>decide (hd row < hd r)):=by
 unfold putR
 rw [qm5 l [] h]
 by_cases e:(l.any fun r=>decide (hd row < hd r)) = true
 ·rw [if_pos e];simp
 ·rw [if_neg e]
  have f1:l.filter (fun r=>decide (hd row < hd r)) = []:=List.filter_eq_nil_iff.2 fun x hx=>by
   intro k
   exact e (List.any_eq_true.2 ⟨x,hx,k⟩)
  rw [f1]
  simp
theorem qs1 {l:List (List Int)} {row:List Int} (h:AscR l):AscR (putR l row):=by
 rw [zp8 h]
 unfold AscR
 rw [List.pairwise_append]
 refine ⟨h.filter _,List.pairwise_cons.2 ⟨fun x hx=>?_,h.filter _⟩,fun a ha b hb=>?_⟩
 ·have:=(List.mem_filter.1 hx).2
  simpa using this
 ·have h1:=(List.mem_filter.1 ha).2
  rcases List.mem_cons.1 hb with rfl | hb
  ·simpa using h1
  ·have h2:=(List.mem_filter.1 hb).2
   simp only [decide_eq_true_eq] at h1 h2
   omega
theorem Yi {l:List (List Int)} {row r:List Int} (h:AscR l):r∈putR l row↔r = row∨(r∈l∧hd r≠hd row):=by
 rw [zp8 h,List.mem_append,List.mem_cons,List.mem_filter,List.mem_filter]
 simp only [decide_eq_true_eq]
 constructor
 ·rintro (⟨a,b⟩ | a | ⟨a,b⟩)
  ·exact .inr ⟨a,by omega⟩
  ·exact .inl a
  ·exact .inr ⟨a,by omega⟩
 ·rintro (a | ⟨a,b⟩)
  ·exact .inr (.inl a)
  ·by_cases c:hd r < hd row
   ·exact .inl ⟨a,c⟩
   ·exact .inr (.inr ⟨a,by omega⟩)
theorem Yj (l:List (List Int)) (row:List Int):(putR l row).length≤l.length + 1:=by
 have key:∀ (l:List (List Int)) (x:List (List Int)×Bool),(l.foldl (putS row) x).1.length + (if (l.foldl (putS row) x).2 then 0 else 1)≤x.1.length + (if x.2 then 0 else 1) + l.length:=by
  intro l
  induction l with
  | nil=>intro x;simp only [List.foldl_nil,List.length_nil,Nat.add_zero];exact Nat.le_refl _
  | cons r l ih=>
    intro x
    have h1:=ih (putS row x r)
    have h2:(putS row x r).1.length + (if (putS row x r).2 then 0 else 1)≤x.1.length + (if x.2 then 0 else 1) + 1:=by
     unfold putS
     split
     ·omega
     ·split
      ·rename_i h;rw [h.2];simp
      ·simp;omega
    rw [List.foldl_cons,List.length_cons]
    omega
 have:=key l ([],false)
 unfold putR
 simp only [List.length_nil,Bool.false_eq_true,if_false] at this
 dsimp only
 split
 ·rename_i h;rw [h] at this;simp at this;omega
 ·rename_i h
  rw [if_neg h] at this
  rw [List.length_append]
  simp
  omega
end Go.Proofs
namespace Go.Proofs
open Go Go.TL
theorem js3 {α:Type} [Inhabited α] {f:α→Int} {l:List α} (h:∀ i,0 < i→i < l.length→f (l.getD (i - 1) default) < f (l.getD i default)):l.Pairwise fun a b=>f a < f b:=by
 rw [List.pairwise_iff_getElem]
 have key:∀ (d i:Nat) (hj:i + d + 1 < l.length),f (l[i]'(by omega)) < f l[i + d + 1]:=by
  intro d
  induction d with
  | zero=>
    intro i hj
    have:=h (i + 1) (by omega) (by omega)
    rw [qj (by omega),qj (by omega)] at this
    simpa using this
  | succ d ih=>
    intro i hj
    have h1:=ih i (by omega)
    have h2:=h (i + d + 1 + 1) (by omega) (by omega)
    rw [qj (by omega),qj (by omega)] at h2
    simp only [Nat.add_sub_cancel] at h2
    have e:i + (d + 1) + 1 = i + d + 1 + 1:=by omega
    simp only [e]
    omega
 intro i j hi hj hij
 have:=key (j - i - 1) i (by omega)
 have e:i + (j - i - 1) + 1 = j:=by omega
 simp only [e] at this
 exact this
theorem js4 {α:Type} [Inhabited α] {f:α→Int} {l:List α} (h:l.Pairwise fun a b=>f a < f b) {i:Nat} (h0:0 < i) (hi:i < l.length):f (l.getD (i - 1) default) < f (l.getD i default):=by
 rw [qj (by omega),qj hi]
 exact List.pairwise_iff_getElem.1 h (i - 1) i (by omega) hi (by omega)
structure SrcOk (s:Src):Prop where
 sch:schE s.sch = 0
 nr:s.rows.length≤200
 ng:s.gone.length≤300
 ver:0≤s.ver∧s.ver≤300
 rows:∀ r∈s.rows,rowE s.sch r = 0
 asc:AscR s.rows
 gone:∀ g∈s.gone,1≤g∧g≤1048575∧qc0 s g < 0
 gasc:s.gone.Pairwise fun a b=>a < b
theorem Jx {s:Sch} {r:List Int} (h:rowE s r = 0):0 < r.length:=by
 obtain ⟨h1,h2,_⟩:=WO h
 have:=(qT h1).nc
 omega
theorem yI {s:Src} {id:Int}:qc0 s id < 0↔∀ r∈s.rows,atR id r = false:=by
 unfold qc0
 split
 ·rename_i h
  obtain ⟨r,h1,h2⟩:=List.any_eq_true.1 h
  constructor
  ·intro h3;omega
  ·intro h3;rw [h3 r h1] at h2;cases h2
 ·rename_i h
  constructor
  ·intro _ r hr
   cases e:atR id r with
   | false=>rfl
   | true=>exact absurd (List.any_eq_true.2 ⟨r,hr,e⟩) h
  ·intro _;omega
theorem qm6 {s:Src}:srcB s = true↔SrcOk s:=by
 unfold srcB zW6 jo4 asc2
 simp only [Bool.and_eq_true,beq_iff_eq,decide_eq_true_eq,List.all_eq_true,List.mem_range,Bool.or_eq_true]
 constructor
 ·rintro ⟨⟨⟨⟨⟨⟨h1,h2⟩,h3⟩,h4⟩,h5⟩,h6⟩,h7⟩
  refine ⟨h1,h2,h3,⟨h4,h5⟩,fun r hr=>?_,?_,fun g hg=>?_,?_⟩
  ·obtain ⟨i,hi,rfl⟩:=List.getElem_of_mem hr
   have:=(h6 i hi).1
   rw [qj hi] at this
   exact this
  ·exact js3 (f:=hd) fun i h0 hi=>((h6 i hi).2.resolve_left (by omega))
  ·obtain ⟨i,hi,rfl⟩:=List.getElem_of_mem hg
   obtain ⟨⟨⟨a,b⟩,c⟩,d⟩:=h7 i hi
   rw [qj hi] at a b d
   exact ⟨a,b,d⟩
  ·exact js3 (f:=fun x:Int=>x) fun i h0 hi=>((h7 i hi).1.2.resolve_left (by omega))
 ·intro h
  refine ⟨⟨⟨⟨⟨⟨h.sch,h.nr⟩,h.ng⟩,h.ver.1⟩,h.ver.2⟩,fun i hi=>⟨?_,?_⟩⟩,fun i hi=>⟨⟨⟨?_,?_⟩,?_⟩,?_⟩⟩
  ·rw [qj hi];exact h.rows _ (List.getElem_mem hi)
  ·by_cases e:i = 0
   ·exact .inl e
   ·exact .inr (js4 (f:=hd) h.asc (by omega) hi)
  ·rw [qj hi];exact (h.gone _ (List.getElem_mem hi)).1
  ·rw [qj hi];exact (h.gone _ (List.getElem_mem hi)).2.1
  ·by_cases e:i = 0
   ·exact .inl e
   ·exact .inr (js4 (f:=fun x:Int=>x) h.gasc (by omega) hi)
  ·rw [qj hi];exact (h.gone _ (List.getElem_mem hi)).2.2
theorem zi9 {s:Sch} {r:List Int} (h:rowE s r = 0) (id:Int):atR id r = (hd r == id):=by
 unfold atR
 rw [decide_eq_true (Jx h),Bool.true_and]
theorem zp9 {l:List (List Int)} {row:List Int} (h:AscR l) (hk:∃ r∈l,hd r = hd row):(putR l row).length≤l.length:=by
 obtain ⟨r,hr,e⟩:=hk
 rw [zp8 h,List.length_append,List.length_cons]
 obtain ⟨i,hi,rfl⟩:=List.getElem_of_mem hr
 have h1:l = l.take i ++ l[i] :: l.drop (i + 1):=by rw [← List.drop_eq_getElem_cons hi,List.take_append_drop]
 have f1:(l.filter fun r=>decide (hd r < hd row)).length + (l.filter fun r=>decide (hd row < hd r)).length≤(l.take i).length + (l.drop (i + 1)).length:=by
  rw [h1,List.filter_append,List.filter_append,List.filter_cons,List.filter_cons,decide_eq_false (by omega),decide_eq_false (by omega),← h1]
  have key:∀ m:List (List Int),(m.filter fun r=>decide (hd r < hd row)).length + (m.filter fun r=>decide (hd row < hd r)).length≤m.length:=by
   intro m
   induction m with
   | nil=>simp
   | cons x m ih=>
     rw [List.filter_cons,List.filter_cons,List.length_cons]
     by_cases a:hd x < hd row
     ·rw [decide_eq_true a,decide_eq_false (by omega)]
      simp only [if_true,Bool.false_eq_true,if_false,List.length_cons];omega
     ·rw [decide_eq_false a]
      by_cases b:hd row < hd x
      ·rw [decide_eq_true b];simp only [if_true,Bool.false_eq_true,if_false,List.length_cons];omega
      ·rw [decide_eq_false b];simp only [Bool.false_eq_true,if_false];omega
  have k1:=key (l.take i)
  have k2:=key (l.drop (i + 1))
  simp only [Bool.false_eq_true,if_false,List.length_append]
  omega
 rw [List.length_take,List.length_drop] at f1
 omega
theorem jg3 {l:List Int} {n x:Int}:x∈putI l n↔x = n∨x∈l:=So.insU_mem So.eqI2_iff
theorem jx7 {l:List Int}:(l.Pairwise fun a b=>a < b)↔l.Pairwise fun a b=>So.ltI a b = true:=by
 constructor
 ·exact fun h=>h.imp fun k=>decide_eq_true k
 ·exact fun h=>h.imp fun k=>of_decide_eq_true k
theorem jg4 {l:List Int} {n:Int} (h:l.Pairwise fun a b=>a < b):(putI l n).Pairwise fun a b=>a < b:=jx7.2 (So.insU_srt So.ltI_ord So.ltI_tot So.ltI_trans So.eqI2_iff (jx7.1 h))
theorem jg5 (l:List Int) (n:Int):(putI l n).length≤l.length + 1:=So.insU_len
theorem jg6 {s:Src} {e:Edt} (h:SrcOk s) (hg:(s.gone.length:Int)≤s.ver) (he:wg s e = 0):SrcOk (Qf s e)∧((Qf s e).gone.length:Int)≤(Qf s e).ver:=by
 have hv:=h.ver
 have e0:Qf s e = ⟨s.sch,qi1 s e,if e.kind = 4 then putI s.gone e.id else s.gone,s.ver + 1⟩:=by rw [Qf,if_neg (by rw [he];simp)]
 rw [e0]
 unfold wg at he
 split at he
 ·cases he
 rename_i hv2
 have hv3:s.ver≠300:=fun k=>hv2 (.inr k)
 by_cases k12:e.kind = 1∨e.kind = 2
 ·rw [if_pos k12] at he
  have hk4:¬ e.kind = 4:=by omega
  simp only [qi1,if_pos k12,if_neg hk4]
  split at he
  ·rename_i h1;exact absurd he h1
  rename_i h1
  have hrow:rowE s.sch e.row = 0:=Classical.byContradiction h1
  split at he
  ·cases he
  rename_i h2
  have hng:hd e.row∉s.gone:=by simpa using h2
  split at he
  ·cases he
  rename_i h3
  split at he
  ·cases he
  rename_i h4
  split at he
  ·cases he
  rename_i h5
  refine ⟨⟨h.sch,?_,h.ng,by dsimp only;omega,fun r hr=>?_,qs1 h.asc,fun g hgm=>?_,h.gasc⟩,by omega⟩
  ·dsimp only
   rcases k12 with k | k
   ·have:=Yj s.rows e.row
    have hn:=h.nr
    have:s.rows.length≠200:=fun q=>h4 ⟨k,q⟩
    omega
   ·have hf:¬ qc0 s (hd e.row) < 0:=fun q=>h5 ⟨k,q⟩
    refine Nat.le_trans (zp9 h.asc ?_) h.nr
    refine Classical.byContradiction fun hno=>hf (yI.2 fun r hr=>?_)
    rw [zi9 (h.rows r hr),beq_eq_false_iff_ne]
    exact fun q=>hno ⟨r,hr,q⟩
  ·rcases (Yi h.asc).1 hr with hr | hr
   ·rw [hr];exact hrow
   ·exact h.rows r hr.1
  ·obtain ⟨g1,g2,g3⟩:=h.gone g hgm
   refine ⟨g1,g2,yI.2 fun r hr=>?_⟩
   rcases (Yi h.asc).1 hr with hr | hr
   ·rw [hr,zi9 hrow,beq_eq_false_iff_ne]
    exact fun q=>hng (q ▸ hgm)
   ·exact yI.1 g3 r hr.1
 ·simp only [qi1,if_neg k12]
  rw [if_neg k12] at he
  have hsub:∀ r∈qA2 s.rows e.id,r∈s.rows:=fun r hr=>(List.mem_filter.1 hr).1
  have hlen:(qA2 s.rows e.id).length≤200:=Nat.le_trans (List.length_filter_le _ _) h.nr
  by_cases k4:e.kind = 4
  ·rw [if_neg (by omega),if_pos k4] at he
   simp only [if_pos k4]
   split at he
   ·cases he
   rename_i h1
   have hpl:=jg5 s.gone e.id
   refine ⟨⟨h.sch,hlen,by dsimp only;omega,by dsimp only;omega,fun r hr=>h.rows r (hsub r hr),h.asc.filter _,fun g hgm=>?_,jg4 h.gasc⟩,by omega⟩
   rcases jg3.1 hgm with hgm | hgm
   ·rw [hgm]
    refine ⟨by omega,by omega,yI.2 fun r hr=>?_⟩
    obtain ⟨a,b⟩:=List.mem_filter.1 hr
    rw [zi9 (h.rows r a)]
    simpa using b
   ·obtain ⟨g1,g2,g3⟩:=h.gone g hgm
    exact ⟨g1,g2,yI.2 fun r hr=>yI.1 g3 r (hsub r hr)⟩
  ·simp only [if_neg k4]
   refine ⟨⟨h.sch,hlen,h.ng,by dsimp only;omega,fun r hr=>h.rows r (hsub r hr),h.asc.filter _,fun g hgm=>?_,h.gasc⟩,by omega⟩
   obtain ⟨g1,g2,g3⟩:=h.gone g hgm
   exact ⟨g1,g2,yI.2 fun r hr=>yI.1 g3 r (hsub r hr)⟩
theorem zA2:∀ {l:List Edt} {s:Src},SrcOk s→(s.gone.length:Int)≤s.ver→(atS s l).2 = 0→SrcOk (atS s l).1∧((atS s l).1.gone.length:Int)≤(atS s l).1.ver∧(atS s l).1.sch = s.sch
 | [],s,h,hg,_=>⟨h,hg,rfl⟩
 | e :: l,s,h,hg,he=>by
   unfold atS at he ⊢
   split
   ·rename_i h1;rw [if_pos h1] at he;exact absurd he h1
   ·rename_i h1
    rw [if_neg h1] at he
    have h1:wg s e = 0:=Classical.byContradiction h1
    obtain ⟨a,b⟩:=jg6 h hg h1
    obtain ⟨c,d,f⟩:=zA2 a b he
    refine ⟨c,d,f.trans ?_⟩
    rw [Qf,if_neg (by rw [h1];simp)]
theorem jA0 {s:Sch} {r:List Int} (h:rowE s r = 0):1≤hd r∧hd r≤1048575:=by
 obtain ⟨h1,h2,h3⟩:=WO h
 have h4:=h3 0 (Jx h)
 unfold wX at h4
 rw [if_pos (qT h1).c0] at h4
 simp only [inB,Bool.and_eq_true,decide_eq_true_eq] at h4
 exact h4
end Go.Proofs
