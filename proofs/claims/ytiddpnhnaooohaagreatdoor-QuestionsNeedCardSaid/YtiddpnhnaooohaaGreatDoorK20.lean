/- A part of the proof: trees of Go values, short forms, contracts. -/
import Derived.WalkKit
import Derived.Still
import Derived.MapKept
import GoSem.Builtin.Cap
import Derived.Laws.Externs
import GoSem.Extern.SlicesOverlaps
import Derived.Carry
import Derived.ProofKit
import Derived.OpenShut
import Derived.HandedShaped
import Derived.Lay
import Derived.LaidLaws
import Derived.MakeChecks
import Derived.SevenTiedAt
import Derived.Test.YtiddpnhnaooohaaGreatDoorChecked
import Derived.Test.YtiddpnhnaooohaaGreatDoorK19
set_option linter.unusedSimpArgs false
set_option linter.unusedVariables false
namespace Go.Proofs
open Go Go.TL
set_option maxHeartbeats 4000000
theorem qG1 (s:Sch) (hE:schE s = 0) (c:Cnd) (hnd:NdOk s c) (ha:isAt c = true) (lev:Nat) (hl:(lev:Int)≤finI s c.col):Spc Tryz.prog Zq [schT s,cnT c,vI lev] [] (vB (decB s c lev)) []:=by
 have hok:=qS hE
 have hn0:=hok.nl
 have hn1:=hok.nc
 obtain ⟨_,c1,c2,hfin⟩:=yU (s:=s) (c:=c.col) (by omega)
 obtain ⟨i,hci⟩:=Int.eq_ofNat_of_zero_le (show 0≤c.col by omega)
 have hcn:c.col.toNat = i:=by omega
 have hil:i < s.cols.length:=by omega
 have hat:qj s i = s.cols[i]:=by rw [qj,qk hil]
 have hwd:=fun e l=>hok.wid hil (by omega) e (lev:=l)
 have hlv:=qb5 s hok i hil
 have hll:=YP hok hil
 rw [hcn,hat] at hfin
 rw [hat] at hwd hlv hll
 have hi:isAt c = ((c.op == 2) || (c.op == 3) || (c.op == 4)):=rfl
 have hD:decB s c lev = if c.op = 2 then qe9 (qH s i).length (decP s c lev)
 else if c.op = 4 then decide (0 < lev)
 else if lev = 0 then !s.cols[i].opt && !(decide (s.cols[i].low < c.lo) && decide (c.lo≤s.cols[i].high)) && !(decide (s.cols[i].low≤c.hi) && decide (c.hi < s.cols[i].high))
  else (!(decide (s.cols[i].low < c.lo) && decide (c.lo≤s.cols[i].high)) || (c.lo.tmod (qE s.cols[i] lev) == 0)) && (!(decide (s.cols[i].low≤c.hi) && decide (c.hi < s.cols[i].high)) || ((c.hi + 1).tmod (qE s.cols[i] lev) == 0)):=by
  rw [decB,hcn,hat]
 have hk2:c.op = 2→s.cols[i].kind = 2:=fun h=>by
  have:=(zw.1 (hnd.under h).1).2.2
  rw [hcn,hat] at this;exact this
 have hk3:c.op = 3→s.cols[i].kind = 3:=fun h=>by
  have:=(zw.1 (hnd.between h).1).2.2
  rw [hcn,hat] at this;exact this
 have hPd:∀ L,qH s i = L→∀ j k,decP s c lev j k = !((qK s c.col lev (L.getD j 0) == qK s c.col lev (L.getD k 0)) && !(jT s c (L.getD j 0) == jT s c (L.getD k 0))):=fun L hL j k=>by rw [decP,hcn,hL]
 rw [hD]
 have hci2:vI c.col = vI i:=by rw [hci]
 refine qd qv1 mixm (by simp) fun e _ hst=>qg ?_
 unfold Qv
 simp only [tZ,↓un_u,simprocAttr,hcn,qe hil]
 generalize s.cols[i] = x at hwd hlv hfin hll hk2 hk3 ⊢
 simp only [tZ,↓un_u,simprocAttr,beq_iff_eq,beq_eq_false_iff_ne]
 refine ⟨by omega,fun h2=>?_,fun h2=>?_⟩
 ·rw [if_pos h2]
  rw [← hci2] at hlv
  refine C1.im (hlv (hk2 h2)) (by rfl) (by rfl) ?_
  have hPd:=hPd _ rfl
  generalize qH s i = L at hll hPd ⊢
  have hll:=hll (hk2 h2)
  refine sW ?_
  refine qu mixm (α:=Nat) [9] (fun j=>j≤L.length∧qe9 j (decP s c lev) = true) (fun j=>[(9,vI j)]) (fun j=>[(4096,.arr 2 [schT s] false),(4100,.arr 6 [cnT c] false),(8216,.arr 7 [colT x] false)]) (fun j=>L.length - j) 0 ⟨by omega,rfl⟩ ?_ fun j hj=>?_
  ·exact .oA [(4096,some 4096),(4100,some 4100),(8216,some 8216)] []
  obtain ⟨j1,j2⟩:=hj
  refine sD ?_
  refine ⟨fun h3=>?_,fun h3=>?_⟩
  ·have hj2:j < L.length:=by omega
   have hwj:=qh (i:=j) (by omega)
   have hgj:L.getD j 0 = L[j]:=qk hj2
   refine qu mixm (α:=Nat) [10] (fun k=>k≤j∧(List.range k).all (decP s c lev j) = true) (fun k=>[(10,vI k)]) (fun k=>[(4096,.arr 2 [schT s] false),(4100,.arr 6 [cnT c] false),(8216,.arr 7 [colT x] false)]) (fun k=>j - k) 0 ⟨by omega,rfl⟩ ?_ fun k hk=>?_
   ·exact .oA [(4096,some 4096),(4100,some 4100),(8216,some 8216)] []
   obtain ⟨k1,k2⟩:=hk
   refine sD ?_
   refine ⟨fun h4=>?_,fun h4=>?_⟩
   ·have hk2:k < L.length:=by omega
    have hwk:=qh (i:=k) (by omega)
    have hgk:L.getD k 0 = L[k]:=qk hk2
    have hP:=hPd j k
    rw [hgj,hgk] at hP
    have hC1:=qt8 s hok c hnd L[j]
    have hC2:=qt8 s hok c hnd L[k]
    simp only [tZ,↓un_u,simprocAttr,Int.toNat_natCast,qe hj2,qe hk2]
    refine ⟨by omega,?_⟩
    refine C1.im (jK s hok.sm c.col lev L[j]) (by rfl) (by rfl) ?_
    simp only [tZ,↓un_u,simprocAttr,Int.toNat_natCast,qe hj2,qe hk2]
    refine ⟨by omega,?_⟩
    refine C1.im (jK s hok.sm c.col lev L[k]) (by rfl) (by rfl) ?_
    simp only [tZ,↓un_u,simprocAttr,Int.toNat_natCast,qe hj2,qe hk2]
    refine ⟨fun _=>by omega,?_⟩
    refine C2.im (fun _=>hC1) (fun _=>rfl) (by rfl) ?_
    simp only [tZ,↓un_u,simprocAttr,Int.toNat_natCast,qe hj2,qe hk2]
    refine ⟨fun _=>by omega,?_⟩
    refine C2.im (fun _=>hC2) (fun _=>rfl) (by rfl) ?_
    simp only [tZ,↓un_u,simprocAttr,hwk,tD,bne_iff_ne,bne_eq_false_iff_eq,beq_iff_eq,beq_eq_false_iff_ne]
    refine ⟨by kernel_rfl,fun h5=>?_,fun h5=>?_⟩
    ·rw [qX6 hj2 (show k < j by omega) (by rw [hP];grind)]
     exact .oA [] []
    ·refine ⟨k + 1,⟨by omega,?_⟩,by omega,?_⟩
     ·rw [qX5,k2,hP];grind
     ·exact .oA [(4096,some 4096),(4100,some 4100),(8216,some 8216)] []
   ·have hkj:k = j:=by omega
    subst hkj
    simp only [tZ,↓un_u,simprocAttr,hwj]
    refine ⟨k + 1,⟨by omega,?_⟩,by omega,?_⟩
    ·rw [qq6,j2,k2];rfl
    ·exact .oA [(4096,some 4096),(4100,some 4100),(8216,some 8216)] []
  ·have hjl:j = L.length:=by omega
   subst hjl
   rw [j2]
   exact .oA [] []
 rw [if_neg h2]
 refine ⟨fun h4=>?_,fun h4=>?_⟩
 ·rw [if_pos h4]
  rw [show decide ((lev:Int) > 0) = decide (0 < lev) from by rw [Bool.eq_iff_iff,decide_eq_true_eq,decide_eq_true_eq];omega]
  exact .oA [] []
 rw [if_neg h4]
 have h3:c.op = 3:=by
  rw [hi] at ha
  simp only [tD,beq_iff_eq] at ha
  omega
 have hk3:=hk3 h3
 have hb:=hnd.between h3
 rw [if_neg (by omega)] at hfin
 refine ⟨by kernel_rfl,fun h5=>?_,fun h5=>?_⟩
 ·rw [if_pos (by omega),show decide (c.lo > x.low) = decide (x.low < c.lo) from rfl]
  exact .oA [] []
 ·rw [if_neg (by omega)]
  have hw:=hwd (by omega) lev (by omega)
  refine C1.im (Zc x lev (by omega) (by omega)) (by rfl) (by rfl) ?_
  have hwh:IntKind.i64.wrap (c.hi + 1) = c.hi + 1:=IntWalk.i64_in _ (by omega)
  simp only [tZ,↓un_u,simprocAttr,hwh]
  rw [show decide (c.lo > x.low) = decide (x.low < c.lo) from rfl]
  refine ⟨fun _=>by omega,fun _=>by omega,?_⟩
  exact .oA [] []
theorem qf1 {s:Sch} (hE:schE s = 0) {i:Nat} (h1:0 < i) (h2:i < s.cols.length) (hk:(qj s i).kind = 2) {v:Int} (hv:v∈qH s i):qK s i (finI s i) v = v:=by
 have hok:=qS hE
 obtain ⟨d1,d2⟩:=hok.cdl h2 hk
 have hf:finI s i = zk (qD s i) - 1:=by
  rw [finI,if_neg (by omega),Int.toNat_natCast,if_pos hk]
 have hh:=Ko hk d2 hv
 obtain ⟨j,j1,j2,rfl⟩:=(zU2 d2).1 hv
 rw [qK,if_neg,Int.toNat_natCast,if_pos hk,if_neg (by rw [hh];simp),upC,if_neg,hf,← j2,Int.toNat_natCast,Int.toNat_natCast,zy7 (by omega)]
 ·rw [hf,← j2,Int.toNat_natCast];omega
 ·rw [Bool.not_eq_false,QJ,hf,← j2];omega
theorem jo2 {s:Sch} (hE:schE s = 0) {c:Cnd} (hnd:NdOk s c) (ha:isAt c = true):0≤finI s c.col∧decB s c (finI s c.col).toNat = true:=by
 have hok:=qS hE
 have hlv:∀ k,isB s c.col k = true→2≤k→∃ i:Nat,c.col = i∧0 < i∧i < s.cols.length∧(qj s i).kind = k:=fun k hb hk=>by
  obtain ⟨b1,b2,b3⟩:=zw.1 hb
  obtain ⟨i,hci⟩:=Int.eq_ofNat_of_zero_le b1
  rw [hci,Int.toNat_natCast] at b3
  refine ⟨i,hci,?_,by omega,b3⟩
  refine Nat.pos_of_ne_zero fun e=>?_
  subst e
  have:=hok.c0
  omega
 have hm:∀ i:Nat,0 < i→i < s.cols.length→(qj s i).kind = 3→finI s i = (qj s i).widths.length∧1≤(qj s i).widths.length:=fun i h1 h2 h3=>by
  refine ⟨by rw [finI,if_neg (by omega),Int.toNat_natCast,if_neg (by omega)],?_⟩
  have:=(qX (hok.cs i h2)).2.2.2.2 h3
  unfold measE at this
  grind
 have hop:c.op = 2∨c.op = 3∨c.op = 4:=by
  unfold isAt at ha
  simp only [Bool.or_eq_true,beq_iff_eq] at ha
  omega
 rcases hop with h | h | h
 ·obtain ⟨i,hci,h1,h2,hk⟩:=hlv 2 (hnd.under h).1 (by omega)
  obtain ⟨d1,d2⟩:=hok.cdl h2 hk
  have hf:finI s i = zk (qD s i) - 1:=by
   rw [finI,if_neg (by omega),Int.toNat_natCast,if_pos hk]
  have hf0:0≤finI s i:=by rw [hf,qy0 d2];omega
  rw [hci]
  refine ⟨hf0,?_⟩
  rw [decB,if_pos h,hci,Int.toNat_natCast,qe9,List.all_eq_true]
  intro j hj
  rw [List.mem_range] at hj
  rw [List.all_eq_true]
  intro k hk2
  rw [List.mem_range] at hk2
  have e:(((finI s i).toNat:Nat):Int) = finI s i:=by omega
  rw [decP,hci,Int.toNat_natCast,e,qk hj,qk (by omega),qf1 hE h1 h2 hk (List.getElem_mem _),qf1 hE h1 h2 hk (List.getElem_mem _)]
  grind
 ·obtain ⟨i,hci,h1,h2,hk⟩:=hlv 3 (hnd.between h).1 (by omega)
  obtain ⟨m1,m2⟩:=hm i h1 h2 hk
  have hw:=hok.wid h2 h1 (by omega) (lev:=(qj s i).widths.length) (by omega)
  rw [hci,m1]
  refine ⟨by omega,?_⟩
  rw [decB,if_neg (by omega),if_neg (by omega),hci,Int.toNat_natCast,Int.toNat_natCast]
  dsimp only
  rw [if_neg (by omega),hw.2.2.2.2.2.2.2]
  simp
 ·obtain ⟨i,hci,h1,h2,hk⟩:=hlv 3 (hnd.miss h).1 (by omega)
  obtain ⟨m1,m2⟩:=hm i h1 h2 hk
  rw [hci,m1]
  refine ⟨by omega,?_⟩
  rw [decB,if_neg (by omega),if_pos h,Int.toNat_natCast]
  exact decide_eq_true (by omega)
theorem qG2 {s:Sch} (hE:schE s = 0) {c:Cnd} (hnd:NdOk s c) (ha:isAt c = true):(decN s c:Int)≤finI s c.col∧decB s c (decN s c) = true∧(∀ m,m < decN s c→decB s c m = false):=by
 obtain ⟨h1,h2⟩:=jo2 hE hnd ha
 have h3:=qq7 (c:=c.col) hE
 obtain ⟨a,b,_,d⟩:=qF3 h2 64 0 (by omega) (by omega)
 unfold decN
 exact ⟨by omega,a,fun m hm=>d m (by omega) hm⟩
def qx1 (s:Sch):List Pk→Cnd→List Pk:=fun l a=>Zd l a.col (decN s a)
theorem qG3 (s:Sch):∀ (L:List Cnd) (l:List Pk),(L.foldl (qx1 s) l).length≤l.length + L.length
 | [],l=>Nat.le_refl _
 | a :: L,l=>by
   have h1:=qG3 s L (qx1 s l a)
   have h2:=ql7 l a.col (decN s a)
   rw [List.foldl_cons,List.length_cons]
   unfold qx1 at h1 ⊢
   omega
theorem ql8 (s:Sch) (hs:yz s) (hL:0 < s.lists.length) (c:Cnd):Spc Tryz.prog QP [schT s,cnT c] [] (vPs (zM s c)) []:=by
 refine qd qI3 mixm (by simp) fun e _ hst=>qg ?_
 unfold Jr
 refine sW ?_
 refine C1.im (Wk s hs hL c) (by rfl) (by rfl) ?_
 simp only [tZ,↓un_u,simprocAttr,bne_iff_ne,bne_eq_false_iff_eq]
 refine ⟨fun h=>?_,fun h=>?_⟩
 ·rw [zM,if_pos h]
  exact .oA [] []
 obtain ⟨hE,k2,k3,k4⟩:=qF8 h
 have hal:=qr2 c 41 (by omega) k2
 have hao:=zz1 c k4
 have hN:zM s c = (atsC c).foldl (qx1 s) []:=by rw [zM,if_neg (by rw [h];simp)];rfl
 rw [hN]
 refine C1.im (qY8 c 41 (by omega) (by omega) k2) (by rfl) (by rfl) ?_
 generalize atsC c = L at hal hao ⊢
 refine sW ?_
 refine qu mixm (α:=Nat) [5,7,12] (fun i=>i≤L.length) (fun i=>[(5,vPs ((L.take i).foldl (qx1 s) [])),(7,vI i)]) (fun i=>[(4096,.arr 2 [schT s] false)]) (fun i=>L.length - i) 0 (by omega) ?_ fun i hi=>?_
 ·exact .oA [(4096,some 4096)] []
 have hlen:=qG3 s (L.take i) []
 rw [List.length_take] at hlen
 refine sD ?_
 refine ⟨fun h3=>?_,fun h3=>?_⟩
 ·have hi2:i < L.length:=by omega
  have hwi:=qh (i:=i) (by omega)
  obtain ⟨hnd,ha⟩:=hao _ (List.getElem_mem hi2)
  obtain ⟨n1,n2,n3⟩:=qG2 hE hnd ha
  have h59:=qq7 (c:=L[i].col) hE
  refine qu mixm (α:=Nat) [8] (fun n=>n≤decN s L[i]) (fun n=>[(8,vI n)]) (fun n=>[(4096,.arr 2 [schT s] false)]) (fun n=>decN s L[i] - n) 0 (by omega) ?_ fun n hn=>?_
  ·exact .oA [(4096,some 4096)] []
  have hwn:=qh (i:=n) (by omega)
  simp only [tZ,↓un_u,simprocAttr,Int.toNat_natCast,qe hi2,zj]
  refine ⟨by omega,?_⟩
  refine C1.im (qG1 s hE L[i] hnd ha n (by omega)) (by rfl) (by rfl) ?_
  simp only [tZ,↓un_u,simprocAttr,Bool.not_eq_true',Bool.not_eq_false',hwn]
  refine ⟨by kernel_rfl,fun h4=>?_,fun h4=>?_⟩
  ·have:n≠decN s L[i]:=fun e=>by rw [e,n2] at h4;cases h4
   refine ⟨n + 1,by omega,by omega,?_⟩
   exact .oA [(4096,some 4096)] []
  ·have:n = decN s L[i]:=by
    refine Nat.le_antisymm hn (Nat.le_of_not_lt fun e=>?_)
    rw [n3 n e] at h4;cases h4
   subst this
   simp only [tZ,↓un_u,simprocAttr,Int.toNat_natCast,qe hi2,zj]
   refine ⟨by omega,?_⟩
   refine C1.im (Zg ((L.take i).foldl (qx1 s) []) L[i].col (decN s L[i]) (by simp at hlen;omega)) (by rfl) (by rfl) ?_
   simp only [tZ,↓un_u,simprocAttr,hwi]
   refine ⟨i + 1,by omega,by omega,?_⟩
   rw [qJ hi2,List.foldl_append]
   show Le _ _ ⟨(5,vPs (Zd ((L.take i).foldl (qx1 s) []) L[i].col (decN s L[i]))) :: _,_⟩
   exact .oA [(4096,some 4096)] []
 ·have hil:i = L.length:=by omega
  subst hil
  rw [List.take_length]
  exact .oA [] []
end Go.Proofs
namespace Go.Proofs
open Go Go.TL
set_option maxRecDepth 4000
set_option maxHeartbeats 8000000
theorem Wq (n w:Int) (hw:0 < w∧w≤1000000) (hn : -4611686018427387904 < n∧n < 4611686018427387904):Spc Tryz.prog wm [vI n,vI w] [] (vI (qz n w * w)) []:=by
 rw [zp3 hw.1]
 have h2:=Int.tmod_lt_of_pos n hw.1
 have h3:=Int.lt_tmod_of_pos n hw.1
 have w1:IntKind.i64.wrap (n.tmod w) = n.tmod w:=IntWalk.i64_in _ (by omega)
 have w2:IntKind.i64.wrap (n.tmod w + w) = n.tmod w + w:=IntWalk.i64_in _ (by omega)
 have w3:IntKind.i64.wrap (n - n.tmod w) = n - n.tmod w:=IntWalk.i64_in _ (by omega)
 have w4:IntKind.i64.wrap (n - (n.tmod w + w)) = n - (n.tmod w + w):=IntWalk.i64_in _ (by omega)
 refine qd qp7 mixm (by simp) fun e _ hst=>qg ?_
 unfold yR
 simp only [tZ,↓un_u,simprocAttr,w1,w2,w3,w4,tD]
 refine ⟨by omega,fun h=>?_,fun h=>?_⟩
 ·rw [if_pos h]
  exact .oA [] []
 ·rw [if_neg h]
  exact .oA [] []
theorem qr4 (c:Col) (lev:Int) (h1:1≤lev∧lev≤c.widths.length) (h2:c.widths.length < 4611686018427387904):Spc Tryz.prog yH [colT c,vI lev] [] (vI (qE c lev)) []:=by
 have hw:IntKind.i64.wrap ((c.widths.length:Int) - lev) = (c.widths.length:Int) - lev:=IntWalk.i64_in _ (by omega)
 have hk:((c.widths.length:Int) - lev).toNat < c.widths.length:=by omega
 refine qd qk2 mixm (by simp) fun e _ hst=>qg ?_
 unfold yo
 simp only [tZ,↓un_u,simprocAttr,hw,qe hk]
 rw [qE,qk hk]
 refine ⟨by omega,?_⟩
 exact .oA [] []
theorem ql9 (k k' v:Int):∀ l:List (Int×Int),TL.look TL.eqI k (TL.asg TL.eqI k' v l) = if k = k' then some v else TL.look TL.eqI k l
 | []=>by
   simp only [TL.asg,TL.look,TL.eqI,beq_iff_eq]
 | (a,b) :: r=>by
   have ih:=ql9 k k' v r
   simp only [TL.asg,TL.eqI,beq_iff_eq] at ih ⊢
   by_cases h:k' = a
   ·subst h
    rw [if_pos rfl]
    simp only [TL.look,TL.eqI,beq_iff_eq]
    split <;> rfl
   ·rw [if_neg h]
    simp only [TL.look,TL.eqI,beq_iff_eq]
    rw [ih]
    by_cases h2:k = a
    ·subst h2
     rw [if_pos rfl,if_neg (fun e=>h e.symm),if_pos rfl]
    ·rw [if_neg h2,if_neg h2]
theorem zj9 {n w:Int} (hw:0 < w):(qz n w * w == n) = (n.tmod w == 0):=by
 rw [zp3 hw,Bool.eq_iff_iff,beq_iff_eq,beq_iff_eq]
 have h2:=Int.tmod_lt_of_pos n hw
 have h3:=Int.lt_tmod_of_pos n hw
 split <;> omega
theorem qa8 (s:Sch) (hE:schE s = 0) (c:Cnd) (hnd:NdOk s c) (ha:isAt c = true) (lev:Nat) (hl:(lev:Int)≤finI s c.col):Spc Tryz.prog kL [schT s,cnT c,vI lev] [] (vB (decB s c lev)) []:=by
 have hok:=qS hE
 have hn0:=hok.nl
 have hn1:=hok.nc
 obtain ⟨_,c1,c2,hfin⟩:=yU (s:=s) (c:=c.col) (by omega)
 obtain ⟨i,hci⟩:=Int.eq_ofNat_of_zero_le (show 0≤c.col by omega)
 have hcn:c.col.toNat = i:=by omega
 have hil:i < s.cols.length:=by omega
 have hat:qj s i = s.cols[i]:=by rw [qj,qk hil]
 have hcd:=fun e=>hok.cdl hil e
 have hcd2:=(qX (hok.cs i hil)).2.2.2.1
 have hwd:=fun e l=>hok.wid hil (by omega) e (lev:=l)
 have hll:=YP hok hil
 have hcl:qD s i = s.lists.getD s.cols[i].list.toNat default:=by rw [qD,hat]
 have hlh:=fun h2 v=>Ko (s:=s) (i:=i) h2 (v:=v)
 have hfi:∀ h2:(qj s i).kind = 2,finI s c.col = zk (qD s i) - 1:=fun h2=>by rw [hfin,hcn,if_pos h2]
 have hco:∀ h2:(qj s i).kind = 2,∀ v∈qH s i,qK s c.col lev v = upC (qD s i) v lev:=fun h2 v hv=>by
  have:=Ko h2 (hcd h2).2 hv
  rw [qK,if_neg (by rw [Bool.not_eq_false,QJ];omega),hcn,if_pos h2,if_neg (by rw [this];simp)]
 rw [hcn,hat] at hfin
 rw [hat] at hwd hll hcd hcd2 hfi hco
 have hD:decB s c lev = if c.op = 2 then qe9 (qH s i).length (decP s c lev)
 else if c.op = 4 then decide (0 < lev)
 else if lev = 0 then !s.cols[i].opt && !(decide (s.cols[i].low < c.lo) && decide (c.lo≤s.cols[i].high)) && !(decide (s.cols[i].low≤c.hi) && decide (c.hi < s.cols[i].high))
  else (!(decide (s.cols[i].low < c.lo) && decide (c.lo≤s.cols[i].high)) || (c.lo.tmod (qE s.cols[i] lev) == 0)) && (!(decide (s.cols[i].low≤c.hi) && decide (c.hi < s.cols[i].high)) || ((c.hi + 1).tmod (qE s.cols[i] lev) == 0)):=by
  rw [decB,hcn,hat]
 have hk2:c.op = 2→s.cols[i].kind = 2:=fun h=>by
  have:=(zw.1 (hnd.under h).1).2.2
  rw [hcn,hat] at this;exact this
 have hk3:c.op = 3→s.cols[i].kind = 3:=fun h=>by
  have:=(zw.1 (hnd.between h).1).2.2
  rw [hcn,hat] at this;exact this
 have hm4:c.op = 4→s.cols[i].opt = true:=fun h=>by
  have:=(hnd.miss h).2
  rw [hcn,hat] at this;exact this
 have hPd:∀ L,qH s i = L→∀ j k,decP s c lev j k = !((qK s c.col lev (L.getD j 0) == qK s c.col lev (L.getD k 0)) && !(jT s c (L.getD j 0) == jT s c (L.getD k 0))):=fun L hL j k=>by rw [decP,hcn,hL]
 have hlv:qH s i = atL (qD s i) (zk (qD s i) - 1):=rfl
 rw [hD]
 rw [hcl] at hcd hco hlv
 refine qd Yi mixm (by simp) fun e _ hst=>qg ?_
 unfold ka
 simp only [tZ,↓un_u,simprocAttr,hcn,qe hil]
 have hmw:s.cols[i].kind = 3→1≤s.cols[i].widths.length:=fun h=>by
  have:=(qX (hok.cs i hil)).2.2.2.2 (by rw [hat];exact h)
  rw [hat] at this
  unfold measE at this
  grind
 generalize s.cols[i] = x at hmw hwd hfin hll hk2 hk3 hm4 hcd hcd2 hco hlv ⊢
 simp only [tZ,↓un_u,simprocAttr,beq_iff_eq,beq_eq_false_iff_ne]
 refine ⟨by omega,fun h2=>?_,fun h2=>?_⟩
 ·rw [if_pos h2]
  obtain ⟨d1,d2⟩:=hcd (hk2 h2)
  obtain ⟨d3,d4⟩:=hcd2 (hk2 h2)
  have hco:=hco (hk2 h2)
  have hll:=hll (hk2 h2)
  have hPd:=hPd _ rfl
  rw [qk d1] at d2 hco hlv
  rw [hlv] at hco hll hPd ⊢
  have hAt:=Wp s hok c hnd ha
  simp only [tZ,↓un_u,simprocAttr,qe d1]
  refine ⟨by omega,?_⟩
  generalize s.lists[x.list.toNat] = l at d2 hco hll hPd ⊢
  have hlvl:=qe7 (l:=l)
  have hw2:IntKind.i64.wrap (zk l - 1) = zk l - 1:=IntWalk.i64_in _ (by omega)
  refine C1.im (JV l) (by rfl) (by rfl) ?_
  simp only [tZ,↓un_u,simprocAttr,hw2]
  refine C1.im (qq3 l (zk l - 1)) (by rfl) (by rfl) ?_
  refine sW ?_
  repeat (first | refine ⟨by omega,?_⟩ | refine ⟨by kernel_rfl,?_⟩)
  generalize atL l (zk l - 1) = L at hco hll hPd ⊢
  refine qu mixm (α:=Nat×List (Int×Int)) [41] (fun y=>y.1≤L.length∧qe9 y.1 (decP s c lev) = true∧(∀ a,a < y.1→TL.look TL.eqI (upC l (L.getD a 0) lev) y.2 = some (jT s c (L.getD a 0)))∧∀ k v,TL.look TL.eqI k y.2 = some v→∃ a,a < y.1∧upC l (L.getD a 0) lev = k∧jT s c (L.getD a 0) = v) (fun y=>[(41,vI y.1)]) (fun y=>[(4096,.arr 2 [schT s] false),(4100,.arr 6 [cnT c] false),(16408,.arr 2 [cdlT l] false),(20480,.mp (.ii y.2))]) (fun y=>L.length - y.1) (0,[]) ⟨by simp,rfl,by simp,by simp [TL.look]⟩ ?_ fun y hy=>?_
  ·exact .oA [(4096,some 4096),(4100,some 4100),(16408,some 16408),(20480,some 20480)] []
  obtain ⟨j,M⟩:=y
  obtain ⟨y1,y2,y3,y4⟩:=hy
  dsimp only at y1 y2 y3 y4
  refine sD ?_
  refine ⟨fun h3=>?_,fun h3=>?_⟩
  ·have hj2:j < L.length:=by omega
   have hwj:=qh (i:=j) (by omega)
   have hgj:L.getD j 0 = L[j]:=qk hj2
   have hP:∀ a,a < j→decP s c lev j a = !((upC l L[j] lev == upC l (L.getD a 0) lev) && !(jT s c L[j] == jT s c (L.getD a 0))):=fun a ha=>by
    rw [hPd,hgj,hco L[j] (List.getElem_mem hj2),hco (L.getD a 0) (by rw [qk (show a < L.length by omega)];exact List.getElem_mem _)]
   have hlk:=ql9
   simp only [tZ,↓un_u,simprocAttr,Int.toNat_natCast,qe hj2]
   refine ⟨by omega,?_⟩
   refine C1.im (YO l L[j] lev) (by rfl) (by rfl) ?_
   refine sW ?_
   refine C1.im (hAt L[j]) (by rfl) (by rfl) ?_
   refine sW ?_
   repeat (first | refine ⟨by omega,?_⟩ | refine ⟨by kernel_rfl,?_⟩)
   have hfin:∀ v,(∀ w,TL.look TL.eqI (upC l L[j] lev) M = some w→w = jT s c L[j])→v = jT s c L[j]→(j + 1≤L.length∧qe9 (j + 1) (decP s c lev) = true∧(∀ a,a < j + 1→TL.look TL.eqI (upC l (L.getD a 0) lev) (TL.asg TL.eqI (upC l L[j] lev) v M) = some (jT s c (L.getD a 0)))∧∀ k w,TL.look TL.eqI k (TL.asg TL.eqI (upC l L[j] lev) v M) = some w→∃ a,a < j + 1∧upC l (L.getD a 0) lev = k∧jT s c (L.getD a 0) = w):=fun v hv e=>by
    subst e
    have hsame:∀ a,a < j→upC l (L.getD a 0) lev = upC l L[j] lev→jT s c (L.getD a 0) = jT s c L[j]:=fun a ha he=>by
     have:=y3 a ha
     rw [he] at this
     exact hv _ this
    refine ⟨by omega,?_,fun a h5=>?_,fun k w h5=>?_⟩
    ·rw [qq6,y2,Bool.true_and,List.all_eq_true]
     intro a ha
     rw [List.mem_range] at ha
     rw [hP a ha]
     by_cases q:upC l (L.getD a 0) lev = upC l L[j] lev
     ·rw [hsame a ha q];simp
     ·rw [beq_eq_false_iff_ne.2 (fun e=>q e.symm)];rfl
    ·rw [ql9]
     by_cases q:a = j
     ·subst q;rw [hgj,if_pos rfl]
     ·split
      ·rename_i q2;rw [hsame a (by omega) q2]
      ·exact y3 a (by omega)
    ·rw [ql9] at h5
     split at h5
     ·rename_i q
      exact ⟨j,by omega,by rw [hgj,q],by rw [hgj];simpa using h5⟩
     ·obtain ⟨a,a1,a2,a3⟩:=y4 k w h5
      exact ⟨a,by omega,a2,a3⟩
   cases hf:TL.look TL.eqI (upC l L[j] lev) M with
   | none=>
     simp only [tZ,↓un_u,simprocAttr,hf,Option.isSome_none,hwj]
     refine ⟨fun h=>by simp at h,fun _=>⟨(j + 1,_),hfin _ (fun w h=>by rw [hf] at h;cases h) rfl,by dsimp only;omega,?_⟩⟩
     exact .oA [(4096,some 4096),(4100,some 4100),(16408,some 16408),(20480,some 20480)] []
   | some w=>
     simp only [tZ,↓un_u,simprocAttr,hf,Option.isSome_some,Option.getD_some,bne_iff_ne,bne_eq_false_iff_eq,hwj]
     refine ⟨fun h5=>?_,fun h5=>?_⟩
     ·obtain ⟨a,a1,a2,a3⟩:=y4 _ _ hf
      rw [qX6 hj2 a1 (by rw [hP a a1,a2,a3,beq_self_eq_true,beq_eq_false_iff_ne.2 (fun e=>h5 e.symm)];rfl)]
      exact .oA [] []
     ·refine ⟨(j + 1,_),hfin _ (fun w' h=>by rw [hf] at h;cases h;exact h5) rfl,by dsimp only;omega,?_⟩
      exact .oA [(4096,some 4096),(4100,some 4100),(16408,some 16408),(20480,some 20480)] []
  ·have hjl:j = L.length:=by omega
   subst hjl
   rw [y2]
   exact .oA [] []
 rw [if_neg h2]
 by_cases h4:c.op = 4
 ·rw [if_pos h4]
  have ho:=hm4 h4
  by_cases hz:lev = 0
  ·subst hz
   simp only [tZ,↓un_u,simprocAttr,ho]
   exact .oA [] []
  ·have e0:((lev:Int) == 0) = false:=beq_eq_false_iff_ne.2 (by omega)
   simp only [tZ,↓un_u,simprocAttr,e0,beq_iff_eq,beq_eq_false_iff_ne]
   rw [decide_eq_true (show 0 < lev by omega)]
   refine ⟨fun h=>by simp at h,fun _=>⟨fun _=>?_,fun h=>absurd h4 h⟩⟩
   exact .oA [] []
 rw [if_neg h4]
 have h3:c.op = 3:=by
  unfold isAt at ha
  simp only [Bool.or_eq_true,beq_iff_eq] at ha
  omega
 have hk3:=hk3 h3
 have hb:=hnd.between h3
 rw [if_neg (by omega)] at hfin
 have q4:(c.op == 4) = false:=beq_eq_false_iff_ne.2 h4
 have hxw:=hmw hk3
 obtain ⟨_,_,_,x4,x5,x6,x7,_⟩:=hwd (by omega) 1 (by omega)
 by_cases hz:lev = 0
 ·subst hz
  simp only [tZ,↓un_u,simprocAttr,zj3,zU5,tD]
  refine ⟨fun h=>?_,fun h=>⟨fun k=>absurd k h4,fun _=>?_⟩⟩
  ·rw [h]
   exact .oA [] []
  ·rw [h]
   repeat (first | refine ⟨by omega,?_⟩ | refine ⟨by kernel_rfl,?_⟩)
   refine ⟨fun h5=>?_,fun h5=>?_⟩
   ·rw [show (!false && !(decide (x.low < c.lo) && decide (c.lo≤x.high)) && !(decide (x.low≤c.hi) && decide (c.hi < x.high))) = true by grind]
    exact .oA [] []
   ·rw [show (!false && !(decide (x.low < c.lo) && decide (c.lo≤x.high)) && !(decide (x.low≤c.hi) && decide (c.hi < x.high))) = ((max c.lo x.low == x.low) && (min c.hi x.high == x.high)) by grind]
    exact .oA [] []
 have e0:((lev:Int) == 0) = false:=beq_eq_false_iff_ne.2 (by omega)
 rw [if_neg hz]
 obtain ⟨w1,w2,_⟩:=hwd (by omega) lev (by omega)
 simp only [tZ,↓un_u,simprocAttr,e0,zj3,zU5,tD]
 refine fun _=>⟨fun k=>absurd k h4,fun _=>?_⟩
 repeat (first | refine ⟨by omega,?_⟩ | refine ⟨by kernel_rfl,?_⟩)
 refine ⟨fun h5=>?_,fun h5=>?_⟩
 ·rw [show ((!(decide (x.low < c.lo) && decide (c.lo≤x.high)) || (c.lo.tmod (qE x lev) == 0)) && (!(decide (x.low≤c.hi) && decide (c.hi < x.high)) || ((c.hi + 1).tmod (qE x lev) == 0))) = true by grind]
  exact .oA [] []
 refine ⟨fun h=>by omega,fun _=>?_⟩
 refine C1.im (qr4 x lev (by omega) (by omega)) (by rfl) (by rfl) ?_
 generalize qE x lev = w at w1 w2 ⊢
 have hF:((!(decide (x.low < c.lo) && decide (c.lo≤x.high)) || (c.lo.tmod w == 0)) && (!(decide (x.low≤c.hi) && decide (c.hi < x.high)) || ((c.hi + 1).tmod w == 0))) = (((max c.lo x.low == x.low) || (qz (max c.lo x.low) w * w == max c.lo x.low)) && ((min c.hi x.high == x.high) || (qz (min c.hi x.high + 1) w * w == min c.hi x.high + 1))):=by
  rw [zj9 (by omega),zj9 (by omega)]
  congr 1
  ·by_cases k:x.low < c.lo
   ·rw [show max c.lo x.low = c.lo by omega,decide_eq_true k,decide_eq_true (show c.lo≤x.high by omega),beq_eq_false_iff_ne.2 (show c.lo≠x.low by omega)]
    rfl
   ·rw [show max c.lo x.low = x.low by omega,decide_eq_false k,beq_self_eq_true]
    simp
  ·by_cases k:c.hi < x.high
   ·rw [show min c.hi x.high = c.hi by omega,decide_eq_true k,decide_eq_true (show x.low≤c.hi by omega),beq_eq_false_iff_ne.2 (show c.hi≠x.high by omega)]
    rfl
   ·rw [show min c.hi x.high = x.high by omega,decide_eq_false k,beq_self_eq_true]
    simp
 rw [hF]
 have hwm:IntKind.i64.wrap (min c.hi x.high + 1) = min c.hi x.high + 1:=IntWalk.i64_in _ (by omega)
 refine sW ?_
 refine C2.im (fun _=>Wq (max c.lo x.low) w (by omega) (by omega)) (fun _=>rfl) (by rfl) ?_
 simp only [tZ,↓un_u,simprocAttr,hwm]
 refine C2.im (fun _=>Wq (min c.hi x.high + 1) w (by omega) (by omega)) (fun _=>rfl) (by rfl) ?_
 simp only [tZ,↓un_u,simprocAttr,hwm]
 repeat (first | refine ⟨by omega,?_⟩ | refine ⟨by kernel_rfl,?_⟩)
 exact .oA [] []
end Go.Proofs
namespace Go.Proofs
open Go Go.TL
set_option maxRecDepth 4000
set_option maxHeartbeats 8000000
def canF (f:Nat→Int):Nat→List Pk
 | 0=>[]
 | n + 1=>canF f n ++ (if 0 < f n then [⟨n,f n⟩] else [])
theorem Kv {f g:Nat→Int}:∀ {n:Nat},(∀ k,k < n→f k = g k)→canF f n = canF g n
 | 0,_=>rfl
 | n + 1,h=>by rw [canF,canF,Kv fun k hk=>h k (by omega),h n (by omega)]
theorem qY9 (f:Nat→Int):∀ n,(canF f n).length≤n
 | 0=>Nat.le_refl _
 | n + 1=>by
   have:=qY9 f n
   rw [canF,List.length_append]
   split <;> simp <;> omega
theorem qG4 {f:Nat→Int}:∀ {n:Nat},(∀ k,k < n→f k≤0)→canF f n = []
 | 0,_=>rfl
 | n + 1,h=>by
   have:=h n (by omega)
   rw [canF,qG4 fun k hk=>h k (by omega),if_neg (by omega)];rfl
theorem zk0 {f:Nat→Int} {n:Nat}:∀ d,(∀ k,n≤k→k < n + d→f k≤0)→canF f (n + d) = canF f n
 | 0,_=>rfl
 | d + 1,h=>by
   have:=h (n + d) (by omega) (by omega)
   rw [show n + (d + 1) = n + d + 1 from rfl,canF,if_neg (by omega),List.append_nil,zk0 d fun k h1 h2=>h k h1 (by omega)]
theorem zz5 {f:Nat→Int} {p:Pk}:∀ {n:Nat},p∈canF f n↔∃ k,k < n∧0 < f k∧p = ⟨k,f k⟩
 | 0=>by simp [canF]
 | n + 1=>by
   rw [canF,List.mem_append,zz5]
   constructor
   ·rintro (⟨k,h1,h2,h3⟩ | h)
    ·exact ⟨k,by omega,h2,h3⟩
    ·split at h
     ·rename_i h2;exact ⟨n,by omega,h2,by simpa using h⟩
     ·simp at h
   ·rintro ⟨k,h1,h2,h3⟩
    by_cases e:k = n
    ·subst e;right;rw [if_pos h2];simpa using h3
    ·exact .inl ⟨k,by omega,h2,h3⟩
def upd (f:Nat→Int) (c:Nat) (v:Int):Nat→Int:=fun k=>if k = c then max (f k) v else f k
theorem qR9 {f:Nat→Int} (hf:∀ k,0≤f k) (c:Nat) (v:Int):∀ m,∀ x,(canF f m).foldl (WI c v) ([],decide (v≤0)) = x→
 (m≤c→x.2 = decide (v≤0))∧(x.2 = true→x.1 = canF (upd f c v) m)∧(x.2 = false→0 < v∧x.1 ++ (if c < m then [⟨c,v⟩] else []) = canF (upd f c v) m)
 | 0,x,h=>by
   subst h
   refine ⟨fun _=>rfl,fun _=>rfl,fun h=>⟨?_,by rw [if_neg (by omega)];rfl⟩⟩
   have:=of_decide_eq_false h
   omega
 | m + 1,x,h=>by
   rw [canF,List.foldl_append] at h
   obtain ⟨i1,i2,i3⟩:=qR9 hf c v m _ rfl
   generalize (canF f m).foldl (WI c v) ([],decide (v≤0)) = y at h i1 i2 i3
   obtain ⟨l,b⟩:=y
   dsimp only at i1 i2 i3
   have hm:=hf m
   by_cases h0:0 < f m
   ·rw [if_pos h0,List.foldl_cons,List.foldl_nil] at h
    unfold WI at h
    dsimp only at h
    rcases Nat.lt_trichotomy m c with q | q | q
    ·rw [if_neg (by omega),if_neg (by omega)] at h
     subst h
     have hu:upd f c v m = f m:=by rw [upd,if_neg (by omega)]
     refine ⟨fun _=>i1 (by omega),fun e=>?_,fun e=>⟨(i3 e).1,?_⟩⟩
     ·dsimp only at e ⊢
      rw [i2 e,canF,hu,if_pos h0]
     ·dsimp only at e ⊢
      have:=(i3 e).2
      rw [if_neg (by omega),List.append_nil] at this
      rw [if_neg (by omega),List.append_nil,this,canF,hu,if_pos h0]
    ·subst q
     rw [if_pos rfl,if_neg (show ¬ ((m:Int) > m∧b = false) from fun h=>by omega)] at h
     subst h
     have hu:upd f m v m = max (f m) v:=by rw [upd,if_pos rfl]
     refine ⟨fun e=>by omega,fun _=>?_,fun e=>by simp at e⟩
     dsimp only
     have:l = canF (upd f m v) m:=by
      cases b with
      | true=>exact i2 rfl
      | false=>
        have:=(i3 rfl).2
        rw [if_neg (by omega),List.append_nil] at this
        exact this
     rw [this,canF,hu,if_pos (by omega)]
    ·have hu:upd f c v m = f m:=by rw [upd,if_neg (by omega)]
     have hc:((m:Int) > (c:Int)):=by omega
     cases b with
     | true=>
       rw [if_neg (show ¬ ((m:Int) = c) by omega),if_neg (show ¬ ((m:Int) > c∧true = false) from fun h=>by simp at h)] at h
       subst h
       refine ⟨fun e=>by omega,fun _=>?_,fun e=>by simp at e⟩
       dsimp only
       rw [i2 rfl,canF,hu,if_pos h0]
     | false=>
       rw [if_neg (show ¬ ((m:Int) = c) by omega),if_pos ⟨hc,rfl⟩] at h
       subst h
       refine ⟨fun e=>by omega,fun _=>?_,fun e=>by simp at e⟩
       dsimp only
       have:=(i3 rfl).2
       rw [if_pos q] at this
       rw [this,canF,hu,if_pos h0]
   ·rw [if_neg h0,List.foldl_nil] at h
    subst h
    dsimp only
    have f0:f m = 0:=by omega
    by_cases q:m = c
    ·subst q
     have hu:upd f m v m = max 0 v:=by rw [upd,if_pos rfl,f0]
     refine ⟨fun e=>by omega,fun e=>?_,fun e=>⟨(i3 e).1,?_⟩⟩
     ·have hv:v≤0:=by
       have:=i1 (Nat.le_refl _)
       rw [e] at this
       exact of_decide_eq_true this.symm
      rw [i2 e,canF,hu,if_neg (by omega),List.append_nil]
     ·have:=(i3 e).2
      rw [if_neg (by omega),List.append_nil] at this
      have hv:=(i3 e).1
      rw [this,canF,hu,if_pos (by omega),if_pos (by omega),show max 0 v = v by omega]
    ·have hu:upd f c v m = f m:=by rw [upd,if_neg q]
     refine ⟨fun e=>i1 (by omega),fun e=>?_,fun e=>⟨(i3 e).1,?_⟩⟩
     ·rw [i2 e,canF,hu,if_neg h0,List.append_nil]
     ·have:=(i3 e).2
      rw [canF,hu,if_neg h0,List.append_nil,← this]
      by_cases q2:c < m
      ·rw [if_pos q2,if_pos (by omega)]
      ·rw [if_neg q2,if_neg (by omega)]
theorem qS0 {f:Nat→Int} (hf:∀ k,0≤f k) {c n:Nat} (hc:c < n) (v:Int):Zd (canF f n) c v = canF (upd f c v) n:=by
 obtain ⟨_,i2,i3⟩:=qR9 hf c v n _ rfl
 unfold Zd
 dsimp only
 split
 ·rename_i h;exact i2 h
 ·rename_i h
  have:=(i3 (by simpa using h)).2
  rw [if_pos hc] at this
  exact this
abbrev lvF (lv:List Int):Nat→Int:=fun k=>lv.getD k 0
theorem jo3 {lv:List Int} {c:Nat} (hc:c < lv.length) (v:Int):lvF (lv.set c (max lv[c] v)) = upd (lvF lv) c v:=by
 funext k
 unfold lvF upd
 simp only [List.getD_eq_getElem?_getD,List.getElem?_set]
 by_cases e:c = k
 ·subst e
  simp [hc]
 ·rw [if_neg e,if_neg (fun h=>e h.symm)]
theorem jo4 {lv:List Int} (h:∀ x∈lv,0≤x) (k:Nat):0≤lvF lv k:=by
 unfold lvF
 by_cases hk:k < lv.length
 ·rw [qk hk];exact h _ (List.getElem_mem hk)
 ·simp [List.getD,List.getElem?_eq_none (show lv.length≤k by omega)]
theorem jd2 (n:Nat):canF (lvF (List.replicate n 0)) n = []:=qG4 fun k hk=>by
 unfold lvF
 rw [qk (by simpa using hk),List.getElem_replicate];omega
theorem qr5 (s:Sch) (hs:yz s) (c:Cnd):Spc Tryz.prog yF [schT s,cnT c] [] (vPs (zM s c)) []:=by
 refine qd qj0 mixm (by simp) fun e _ hst=>qg ?_
 unfold yi
 refine sW ?_
 refine C1.im (yV s hs c) (by rfl) (by rfl) ?_
 simp only [tZ,↓un_u,simprocAttr,bne_iff_ne,bne_eq_false_iff_eq]
 refine ⟨fun h=>?_,fun h=>?_⟩
 ·rw [zM,if_pos h]
  exact .oA [] []
 obtain ⟨hE,k2,k3,k4⟩:=qF8 h
 have hok:=qS hE
 have hnc:=hok.nc
 have hal:=qr2 c 41 (by omega) k2
 have hao:=zz1 c k4
 have hN:zM s c = (atsC c).foldl (qx1 s) []:=by rw [zM,if_neg (by rw [h];simp)];rfl
 rw [hN]
 refine ⟨by omega,?_⟩
 refine C1.im (Ku c 41 (by omega) (by omega) k2) (by rfl) (by rfl) ?_
 generalize atsC c = L at hal hao ⊢
 refine sW ?_
 refine qu mixm (α:=Nat×List Int) [23] (fun y=>y.1≤L.length∧y.2.length = s.cols.length∧(∀ x∈y.2,0≤x)∧canF (lvF y.2) s.cols.length = (L.take y.1).foldl (qx1 s) []) (fun y=>[(23,vI y.1)]) (fun y=>[(4096,.arr 2 [schT s] false),(16396,.arr 1 (y.2.map vI) false)]) (fun y=>L.length - y.1) (0,List.replicate s.cols.length 0) ⟨by simp,by simp,fun x hx=>by rw [(List.mem_replicate.1 hx).2];omega,jd2 _⟩ ?_ fun y hy=>?_
 ·rw [List.map_replicate]
  refine .of [(4096,some 4096),(16396,some 16396)] [] rfl (by first | rfl | (rw [hst];rfl)) ?_ ?_
  all_goals (try simp only [tL,simprocAttr,List.map_append,List.map_cons,List.map_nil,List.cons_append,List.nil_append,Int.toNat_natCast,jj5])
  all_goals (try (repeat' (first | exact zb | (apply zN;intro _;exact ⟨rfl,rfl⟩) | (apply qG;intro _;exact ⟨rfl,rfl⟩) | with_reducible apply qV | with_reducible refine qW ⟨rfl,rfl⟩ ?_ | exact zf | with_reducible apply qO | with_reducible refine qM ⟨rfl,rfl,?_⟩ ?_ | with_reducible apply And.intro | exact qQ rfl | exact qQ (by assumption) | (refine ⟨⟨?_,rfl,?_,rfl,?_⟩,trivial⟩ <;> first | (simp;done) | (apply qG;intro _;exact ⟨rfl,rfl⟩)) | trivial | rfl | (rw [qh (by omega)]) | omega)))
 obtain ⟨i,lv⟩:=y
 obtain ⟨y1,y2,y3,y4⟩:=hy
 dsimp only at y1 y2 y3 y4
 refine sD ?_
 refine ⟨fun h3=>?_,fun h3=>?_⟩
 ·have hi2:i < L.length:=by omega
  have hwi:=qh (i:=i) (by omega)
  obtain ⟨hnd,ha⟩:=hao _ (List.getElem_mem hi2)
  obtain ⟨n1,n2,n3⟩:=qG2 hE hnd ha
  have h59:=qq7 (c:=L[i].col) hE
  obtain ⟨_,c1,c2,_⟩:=yU (s:=s) (c:=L[i].col) (by omega)
  have hstep:(L.take (i + 1)).foldl (qx1 s) [] = Zd ((L.take i).foldl (qx1 s) []) L[i].col (decN s L[i]):=by
   rw [qJ hi2,List.foldl_append];rfl
  simp only [tZ,↓un_u,simprocAttr,Int.toNat_natCast,qe hi2,zj]
  refine ⟨by omega,?_⟩
  generalize L[i] = a at hnd ha n1 n2 n3 h59 c1 c2 hstep ⊢
  refine qu mixm (α:=Nat) [8] (fun n=>n≤decN s a) (fun n=>[(8,vI n)]) (fun n=>[(4096,.arr 2 [schT s] false),(16396,.arr 1 (lv.map vI) false),(28680,.arr 6 [cnT a] false)]) (fun n=>decN s a - n) 0 (by omega) ?_ fun n hn=>?_
  ·exact .oA [(4096,some 4096),(16396,some 16396),(28680,some 28680)] []
  have hwn:=qh (i:=n) (by omega)
  refine sW ?_
  refine C1.im (qa8 s hE a hnd ha n (by omega)) (by rfl) (by rfl) ?_
  simp only [tZ,↓un_u,simprocAttr,Bool.not_eq_true',Bool.not_eq_false',hwn]
  refine ⟨fun h4=>?_,fun h4=>?_⟩
  ·have:n≠decN s a:=fun e=>by rw [e,n2] at h4;cases h4
   refine ⟨n + 1,by omega,by omega,?_⟩
   exact .oA [(4096,some 4096),(16396,some 16396),(28680,some 28680)] []
  ·have:n = decN s a:=by
    refine Nat.le_antisymm hn (Nat.le_of_not_lt fun e=>?_)
    rw [n3 n e] at h4;cases h4
   subst this
   obtain ⟨q,hq⟩:=Int.eq_ofNat_of_zero_le (show 0≤a.col by omega)
   have hq2:q < lv.length:=by omega
   simp only [tZ,↓un_u,simprocAttr,hq,Int.toNat_natCast,qe hq2,zj3,hwi,show ∀ a b:Int,repl (vI a) 0 (vI b) = vI b from fun _ _=>rfl]
   repeat (first | refine ⟨by omega,?_⟩ | refine ⟨by kernel_rfl,?_⟩)
   refine ⟨(i + 1,lv.set q (max lv[q] (decN s a))),⟨by dsimp only;omega,by rw [List.length_set];exact y2,fun x hx=>?_,?_⟩,by dsimp only;omega,?_⟩
   ·rcases List.mem_or_eq_of_mem_set hx with h5 | h5
    ·exact y3 x h5
    ·rw [h5];omega
   ·dsimp only
    rw [hstep,← y4,hq,qS0 (jo4 y3) (by omega),jo3 hq2]
   ·rw [← List.map_set]
    exact .oA [(4096,some 4096),(16396,some 16396)] []
 ·have hil:i = L.length:=by omega
  subst hil
  rw [List.take_length] at y4
  rw [← y4]
  simp only [Int.toNat_natCast]
  refine ⟨y2,?_⟩
  rw [← y2]
  refine qu mixm (α:=Nat) [48,9] (fun i=>i≤lv.length) (fun i=>[(9,.asl 1 (canF (lvF lv) i).length),(48,vI i)]) (fun i=>[(16396,.arr 1 (lv.map vI) false),(1,.arr 2 ((canF (lvF lv) i).map pkT) false)]) (fun i=>lv.length - i) 0 (by omega) ?_ fun j hj=>?_
  ·exact .oA [(16396,some 16396),(1,none)] []
  have hcl:=qY9 (lvF lv) j
  refine sD ?_
  refine ⟨fun h5=>?_,fun h5=>?_⟩
  ·have hj2:j < lv.length:=by omega
   have hwj:=qh (i:=j) (by omega)
   have hg:lvF lv j = lv[j]:=qk hj2
   have hc:canF (lvF lv) (j + 1) = canF (lvF lv) j ++ (if 0 < lv[j] then [⟨(j:Nat),lv[j]⟩] else []):=by rw [canF,hg]
   simp only [tZ,↓un_u,simprocAttr,Int.toNat_natCast,qe hj2,hwj,gt_iff_lt,tD]
   refine ⟨by omega,by omega,fun h6=>?_,fun h6=>?_⟩
   ·rw [if_pos h6] at hc
    refine ⟨by omega,j + 1,by omega,by omega,?_⟩
    rw [hc,List.map_append,List.length_append]
    exact .oA [(16396,some 16396),(1,some 1)] []
   ·rw [if_neg h6,List.append_nil] at hc
    refine ⟨j + 1,by omega,by omega,?_⟩
    rw [hc]
    exact .oA [(16396,some 16396),(1,some 1)] []
  ·rw [show lv.length = j by omega]
   exact .oA [] [1]
theorem WJ (p n:Pk):Spc Tryz.prog zO [pkT p,.ip (pkT n).cells] [] (vB ((p.col == n.col) && decide (p.lev≥n.lev))) []:=by
 refine qd KZ mixm (by simp) fun e _ hst=>qg ?_
 unfold jD
 refine sW ?_
 exact .oA [] []
theorem Wl (p:Pk→Bool) (f:FuncId) (caps:List T) (hcap:imL caps = true) (l:List Pk) (hf:∀ y∈l,Spc Tryz.prog f (pkT y :: caps) [] (vB (p y)) []) (hl:l.length < 4611686018427387904) :
 Spc Tryz.prog jA [.sl 2 (l.map pkT),.clo f caps] [] (vI (idxI p l)) []:=by
 refine qd Kk mixm (by simp) fun e _ hst=>qg ?_
 unfold jp
 refine sW ?_
 refine qu mixm (α:=Nat) [8] (fun i=>i≤l.length∧((l.take i).any p = false)) (fun i=>[(8,vI i)]) (fun i=>[]) (fun i=>l.length - i) 0 ⟨by omega,?_⟩ ?_ fun i hi=>?_
 ·simp
 ·exact .oA [] []
 simp only [tZ,↓un_u,simprocAttr,decide_eq_true_eq,decide_eq_false_iff_not]
 refine ⟨fun h=>?_,fun h=>?_⟩
 ·have hi2:i < l.length:=by omega
  have hwi:=qh (i:=i) (by omega)
  simp only [tZ,↓un_u,simprocAttr,Int.toNat_natCast,qe hi2,hwi,qn7]
  refine ⟨by omega,?_⟩
  refine C1.im (hf l[i] (List.getElem_mem hi2)) (qh2 rfl hcap) rfl ?_
  refine sW ?_
  refine ⟨fun h3=>?_,fun h3=>⟨i + 1,⟨by omega,ju hi2 hi.2 h3⟩,by omega,?_⟩⟩
  ·rw [idxI,if_pos (qB7 hi2 h3),Kc hi2 hi.2 h3]
   exact .imR rfl rfl
  ·exact .oA [] []
 ·have h2:i = l.length:=by omega
  have h3:=hi.2
  rw [h2,List.take_length] at h3
  rw [idxI,if_neg (by rw [h3];simp)]
  exact .imR rfl rfl
theorem zS (p:Pk→Bool) (f:FuncId) (caps:List T) (hcap:imL caps = true) (l:List Pk) (hf:∀ y∈l,Spc Tryz.prog f (pkT y :: caps) [] (vB (p y)) []) (hl:l.length < 4611686018427387904) :
 Spc Tryz.prog qZ [.sl 2 (l.map pkT),.clo f caps] [] (vB (l.any p)) []:=by
 refine qd ZG mixm (by simp) fun e _ hst=>qg ?_
 unfold zK
 refine sW ?_
 refine C1.im (Wl p f caps hcap l hf hl) (qx8 rfl hcap) rfl ?_
 refine sW ?_
 rw [show decide (idxI p l≥0) = l.any p from qU7 p l]
 exact .imR rfl rfl
theorem qa9 (n:Pk) (a:List Pk) (ha:a.length < 4611686018427387904):Spc Tryz.prog je [pkT n,.ip [vPs a]] [] (vB (!(a.any fun y=>(y.col == n.col) && decide (y.lev≥n.lev)))) []:=by
 refine qd Yk mixm (by simp) fun e _ hst=>qg ?_
 unfold ke
 refine sW ?_
 have hCF:=zS (fun y=>(y.col == n.col) && decide (y.lev≥n.lev)) zO [.ip (pkT n).cells] rfl a (fun y _=>WJ y n) ha
 refine C1.lend [4096] hCF ?_ (by rfl) (by rfl) ?_
 ·all_goals (try simp only [tL,simprocAttr,List.map_append,List.map_cons,List.map_nil,List.cons_append,List.nil_append])
  all_goals (try (repeat' (first | exact zb | (apply zN;intro _;exact ⟨rfl,rfl⟩) | (apply qG;intro _;exact ⟨rfl,rfl⟩) | with_reducible apply qV | with_reducible refine qW ⟨rfl,rfl⟩ ?_ | exact zf | with_reducible apply qO | with_reducible refine qM ⟨rfl,rfl,?_⟩ ?_ | with_reducible apply And.intro | exact qQ rfl | exact qQ (by assumption) | (refine ⟨⟨?_,rfl,?_,rfl,?_⟩,trivial⟩ <;> first | (simp;done) | (apply qG;intro _;exact ⟨rfl,rfl⟩)) | trivial | rfl | (rw [qh (by omega)]) | omega)))
  simp only [ltP]
  exact ⟨rfl,by decide,rfl,qW ⟨rfl,rfl⟩ zf⟩
 refine sW ?_
 exact .oA [] []
theorem qm0 (a b:List Pk) (ha:a.length < 4611686018427387904) (hb:b.length < 4611686018427387904):Spc Tryz.prog wR [vPs a,vPs b] [] (vB (covB b a)) []:=by
 refine qd qd2 mixm (by simp) fun e _ hst=>qg ?_
 unfold wy
 refine sW ?_
 have hCF:=zS (fun n=>!(a.any fun y=>(y.col == n.col) && decide (y.lev≥n.lev))) je [.ip [vPs a]] rfl b (fun n _=>qa9 n a ha) hb
 refine C1.lend [4096] hCF ?_ (by rfl) (by rfl) ?_
 ·all_goals (try simp only [tL,simprocAttr,List.map_append,List.map_cons,List.map_nil,List.cons_append,List.nil_append])
  all_goals (try (repeat' (first | exact zb | (apply zN;intro _;exact ⟨rfl,rfl⟩) | (apply qG;intro _;exact ⟨rfl,rfl⟩) | with_reducible apply qV | with_reducible refine qW ⟨rfl,rfl⟩ ?_ | exact zf | with_reducible apply qO | with_reducible refine qM ⟨rfl,rfl,?_⟩ ?_ | with_reducible apply And.intro | exact qQ rfl | exact qQ (by assumption) | (refine ⟨⟨?_,rfl,?_,rfl,?_⟩,trivial⟩ <;> first | (simp;done) | (apply qG;intro _;exact ⟨rfl,rfl⟩)) | trivial | rfl | (rw [qh (by omega)]) | omega)))
  simp only [ltP]
  exact ⟨rfl,by decide,rfl,qW ⟨rfl,rfl⟩ zf⟩
 refine sW ?_
 rw [show (!(b.any fun n=>!(a.any fun y=>(y.col == n.col) && decide (y.lev≥n.lev)))) = covB b a by rw [covB,List.not_any_eq_all_not];simp]
 exact .oA [] []
end Go.Proofs
namespace Go.Proofs
open Go Go.TL
set_option maxHeartbeats 4000000
theorem qr6 (s:Sch) (col kind:Int):Spc Tryz.prog Kf [schT s,vI col,vI kind] [] (vB (isB s col kind)) []:=by
 by_cases h:0≤col∧col < s.cols.length
 ·obtain ⟨i,rfl⟩:=Int.eq_ofNat_of_zero_le h.1
  have hi:i < s.cols.length:=by omega
  have e1:decide ((i:Int)≥0) = true:=decide_eq_true (by omega)
  have e2:decide ((i:Int) < s.cols.length) = true:=decide_eq_true (by omega)
  have e3:isB s i kind = (s.cols[i].kind == kind):=by
   rw [isB,Int.toNat_natCast,qj,qk hi,decide_eq_true h.1,decide_eq_true h.2];rfl
  refine qd qe0 mixm (by simp) fun e _ hst=>qg ?_
  unfold ZK
  simp only [tZ,↓un_u,simprocAttr,e1,e2,Int.toNat_natCast,qe hi]
  rw [e3]
  refine ⟨by omega,?_⟩
  exact .oA [] []
 ·have e1:(decide (col≥0) && decide (col < (s.cols.length:Int))) = false:=by
   rw [Bool.and_eq_false_iff,decide_eq_false_iff_not,decide_eq_false_iff_not];omega
  have e3:isB s col kind = false:=by
   unfold isB
   rw [show (decide (0≤col) && decide (col < (s.cols.length:Int))) = false from e1];rfl
  rcases Nat.lt_or_ge col.toNat s.cols.length with hk | hk
  ·refine qd qe0 mixm (by simp) fun e _ hst=>qg ?_
   unfold ZK
   simp only [tZ,↓un_u,simprocAttr,e1,qe hk]
   rw [e3]
   exact .oA [] []
  ·have hj:(s.cols.map colT).getD col.toNat .junk = .junk:=ql4 hk
   refine qd qe0 mixm (by simp) fun e _ hst=>qg ?_
   unfold ZK
   simp only [tZ,↓un_u,simprocAttr,e1,hj,List.drop_succ_cons,List.drop_nil]
   rw [e3]
   exact .oA [] []
theorem zk1 (s:Sch) (hs:yz s) (l:List Pk):Spc Tryz.prog Yc [schT s,vPs l] [] (vI (Ze s l)) []:=by
 refine qd qW1 mixm (by simp) fun e _ hst=>qg ?_
 unfold Wb
 refine sD ?_
 refine ⟨fun h=>?_,fun h=>?_⟩
 ·rw [Ze,if_pos (by omega)]
  exact .oA [] []
 rw [Ze,if_neg (by omega)]
 refine qu mixm (α:=Nat) [5,15] (fun i=>i≤l.length∧jd (dimE s l) i = 0) (fun i=>[(5,vI i)]) (fun i=>[(4096,.arr 2 [schT s] false)]) (fun i=>l.length - i) 0 ⟨by omega,rfl⟩ ?_ fun i hi=>?_
 ·exact .oA [(4096,some 4096)] []
 refine sD ?_
 refine ⟨fun h3=>?_,fun h3=>?_⟩
 ·have hi2:i < l.length:=by omega
  have hwi:=qh (i:=i) (by omega)
  have hpi:pkAt l i = l[i]:=by rw [pkAt,qk hi2]
  have hstep:=Zk hi.2 hi2
  have hnext:=kp hi.2
  have hA:dimE s l i = if yr s l[i]≠0 then yr s l[i] else if isB s l[i].col 2 = false then 7 else if ((l.take i).any fun x=>x.col == l[i].col) = true then 10 else 0:=by rw [dimE,hpi]
  simp only [tZ,↓un_u,simprocAttr,Int.toNat_natCast,qe hi2]
  refine ⟨by omega,?_⟩
  refine C1.im (qt7 s hs l[i]) (by rfl) (by rfl) ?_
  simp only [tZ,↓un_u,simprocAttr,bne_iff_ne,bne_eq_false_iff_eq]
  refine ⟨by kernel_rfl,fun h4=>?_,fun h4=>?_⟩
  ·rw [if_pos h4] at hA
   rw [hstep (by rw [hA];exact h4),hA]
   exact .oA [] []
  rw [if_neg (by rw [h4];simp)] at hA
  simp only [tZ,↓un_u,simprocAttr,Int.toNat_natCast,qe hi2]
  refine ⟨by omega,?_⟩
  refine C1.im (qr6 s l[i].col 2) (by rfl) (by rfl) ?_
  simp only [tZ,↓un_u,simprocAttr,Bool.not_eq_true',Bool.not_eq_false']
  refine ⟨by kernel_rfl,fun h5=>?_,fun h5=>?_⟩
  ·rw [if_pos h5] at hA
   rw [hstep (by rw [hA];simp),hA]
   exact .oA [] []
  rw [if_neg (by rw [h5];simp)] at hA
  refine qu mixm (α:=Nat) [7] (fun k=>k≤i∧(l.take k).any (fun x=>x.col == l[i].col) = false) (fun k=>[(7,vI k)]) (fun k=>[(4096,.arr 2 [schT s] false)]) (fun k=>i - k) 0 ⟨by omega,rfl⟩ ?_ fun k hk=>?_
  ·exact .oA [(4096,some 4096)] []
  refine sD ?_
  refine ⟨fun h6=>?_,fun h6=>?_⟩
  ·have hk2:k < l.length:=by omega
   have hwk:=qh (i:=k) (by omega)
   simp only [tZ,↓un_u,simprocAttr,Int.toNat_natCast,qe hi2,qe hk2,hwk]
   refine ⟨by omega,by omega,by kernel_rfl,fun h7=>?_,fun h7=>?_⟩
   ·rw [if_pos (List.any_eq_true.2 ⟨l[k],List.mem_take_iff_getElem.2 ⟨k,by omega,rfl⟩,h7⟩)] at hA
    rw [hstep (by rw [hA];simp),hA]
    exact .oA [] []
   ·refine ⟨k + 1,⟨by omega,ju hk2 hk.2 h7⟩,by omega,?_⟩
    exact .oA [(4096,some 4096)] []
  ·have hki:k = i:=by omega
   subst hki
   rw [if_neg (by rw [hk.2];simp)] at hA
   simp only [tZ,↓un_u,simprocAttr,hwi]
   refine ⟨k + 1,⟨by omega,by rw [hnext,hA]⟩,by omega,?_⟩
   exact .oA [(4096,some 4096)] []
 ·have hil:i = l.length:=by omega
  subst hil
  rw [hi.2]
  exact .oA [] []
theorem qZ0 (s:Sch) (m:Int) (l:List Int):Spc Tryz.prog KR [schT s,vI m,vIs l] [] (vI (kJ s m l)) []:=by
 refine qd qN3 mixm (by simp) fun e _ hst=>qg ?_
 unfold JQ
 refine sD ?_
 refine ⟨fun h=>?_,fun h=>?_⟩
 ·rw [kJ,if_pos (by omega)]
  exact .oA [] []
 rw [kJ,if_neg (by omega)]
 refine qu mixm (α:=Nat) [7,15] (fun i=>i≤l.length∧jd (qF4 s m l) i = 0) (fun i=>[(7,vI i)]) (fun i=>[(4096,.arr 2 [schT s] false)]) (fun i=>l.length - i) 0 ⟨by omega,rfl⟩ ?_ fun i hi=>?_
 ·exact .oA [(4096,some 4096)] []
 refine sD ?_
 refine ⟨fun h3=>?_,fun h3=>?_⟩
 ·have hi2:i < l.length:=by omega
  have hwi:=qh (i:=i) (by omega)
  have hpi:l.getD i 0 = l[i]:=qk hi2
  have hstep:=Zk hi.2 hi2
  have hnext:=kp hi.2
  have hA:qF4 s m l i = if isB s l[i] 3 = false then 7 else if l[i] = m∨(l.take i).contains l[i] = true then 10 else 0:=by rw [qF4,hpi]
  have hH:=qE7 (l.take i) l[i] (by rw [List.length_take];omega)
  simp only [tZ,↓un_u,simprocAttr,Int.toNat_natCast,qe hi2]
  refine ⟨by omega,?_⟩
  refine C1.im (qr6 s l[i] 3) (by rfl) (by rfl) ?_
  simp only [tZ,↓un_u,simprocAttr,Bool.not_eq_true',Bool.not_eq_false']
  refine ⟨by kernel_rfl,fun h5=>?_,fun h5=>?_⟩
  ·rw [if_pos h5] at hA
   rw [hstep (by rw [hA];simp),hA]
   exact .oA [] []
  rw [if_neg (by rw [h5];simp)] at hA
  simp only [tZ,↓un_u,simprocAttr,Int.toNat_natCast,qe hi2,qc3,qQ7]
  refine ⟨by omega,fun _=>by omega,fun _=>by omega,?_⟩
  refine C2.im (fun _=>hH) (fun _=>rfl) (by rfl) ?_
  simp only [tZ,↓un_u,simprocAttr,tD,beq_iff_eq,beq_eq_false_iff_ne,hwi]
  refine ⟨by kernel_rfl,fun h6=>?_,fun h6=>?_⟩
  ·rw [if_pos h6] at hA
   rw [hstep (by rw [hA];simp),hA]
   exact .oA [] []
  ·rw [if_neg (by grind)] at hA
   refine ⟨i + 1,⟨by omega,by rw [hnext,hA]⟩,by omega,?_⟩
   exact .oA [(4096,some 4096)] []
 ·have hil:i = l.length:=by omega
  subst hil
  rw [hi.2]
  exact .oA [] []
theorem zk2 (c:Cnd):Spc Tryz.prog Yb [cnT c] [] (vB (Kq c cnd0)) []:=by
 have h:=zj8 c cnd0 fun h=>.mk c (by rw [h];decide) (by rw [List.length_eq_zero_iff.1 (show c.kids.length = 0 from h)];simp)
 refine qd qV6 mixm (by simp) fun e _ hst=>qg ?_
 unfold KX
 refine sW ?_
 refine C1.shut [] h ?_ (by rfl) rfl ?_
 ·all_goals (try exact clA)
 refine sW ?_
 exact .oA [] []
theorem qZ1 (s:Sch) (hE:schE s = 0) (hL:0 < s.lists.length) (q:Qst):Spc Tryz.prog KK [schT s,qstT q] [] (vI (jH s q)) []:=by
 have hok:=qS hE
 refine qd qK5 mixm (by simp) fun e _ hst=>qg ?_
 unfold JC
 refine sW ?_
 refine C1.im (qr6 s q.meas 3) (by rfl) (by rfl) ?_
 simp only [tZ,↓un_u,simprocAttr,beq_iff_eq,beq_eq_false_iff_ne]
 refine ⟨fun h=>?_,fun h=>?_⟩
 ·rw [jH,if_pos h]
  refine C1.im (zk1 s hok.sm q.dims) (by rfl) (by rfl) ?_
  simp only [tZ,↓un_u,simprocAttr,bne_iff_ne,bne_eq_false_iff_eq]
  refine ⟨fun h2=>?_,fun h2=>?_⟩
  ·rw [if_pos h2]
   exact .oA [] []
  rw [if_neg (by rw [h2];simp)]
  simp only [tZ,↓un_u,simprocAttr,bne_iff_ne,bne_eq_false_iff_eq,tD,Bool.not_eq_true',Bool.not_eq_false']
  refine ⟨fun h3=>?_,fun h3=>?_⟩
  ·rw [if_pos h3]
   exact .oA [] []
  ·rw [if_neg (by grind)]
   exact .oA [] []
 rw [jH,if_neg h]
 refine ⟨fun h2=>?_,fun h2=>?_⟩
 ·rw [if_pos h2]
  simp only [tZ,↓un_u,simprocAttr,Bool.not_eq_true',Bool.not_eq_false']
  refine ⟨fun h3=>?_,fun h3=>?_⟩
  ·rw [if_pos h3]
   exact .oA [] []
  rw [if_neg (by rw [h3];simp)]
  refine C1.im (qZ0 s q.meas q.terms) (by rfl) (by rfl) ?_
  refine sW ?_
  exact .oA [] []
 rw [if_neg h2]
 simp only [tZ,↓un_u,simprocAttr,Bool.not_eq_true',Bool.not_eq_false']
 refine ⟨fun h3=>?_,fun h3=>?_⟩
 ·rw [if_pos h3]
  exact .oA [] []
 rw [if_neg (by rw [h3];simp)]
 obtain ⟨b1,b2,b3⟩:=zw.1 h3
 have hil:q.meas.toNat < s.cols.length:=by omega
 rw [qj,qk hil]
 simp only [tZ,↓un_u,simprocAttr,qe hil,tD]
 refine ⟨by omega,fun h4=>?_,fun h4=>?_⟩
 ·rw [if_pos h4]
  exact .oA [] []
 rw [if_neg h4]
 refine C1.im (Wk s hok.sm hL q.event) (by rfl) (by rfl) ?_
 refine sW ?_
 exact .oA [] []
theorem Wr (s:Sch) (hs:yz s) (hL:0 < s.lists.length) (q:Qst):Spc Tryz.prog wh [schT s,qstT q] [] (vI (qstE s q)) []:=by
 refine qd qo8 mixm (by simp) fun e _ hst=>qg ?_
 unfold yK
 refine sW ?_
 refine C1.im (yq s hs) (by rfl) (by rfl) ?_
 simp only [tZ,↓un_u,simprocAttr,bne_iff_ne,bne_eq_false_iff_eq]
 refine ⟨fun h=>?_,fun h=>?_⟩
 ·rw [qstE,if_pos h]
  exact .oA [] []
 rw [qstE,if_neg (by rw [h];simp)]
 refine C1.im (Jj q.name) (by rfl) (by rfl) ?_
 simp only [tZ,↓un_u,simprocAttr,Bool.not_eq_true',Bool.not_eq_false']
 refine ⟨fun h2=>?_,fun h2=>?_⟩
 ·rw [if_pos h2]
  exact .oA [] []
 rw [if_neg (by rw [h2];simp)]
 refine sD ?_
 refine ⟨fun h3=>?_,fun h3=>?_⟩
 ·rw [if_pos (by omega)]
  exact .oA [] []
 rw [if_neg (by omega)]
 refine C1.im (Wk s hs hL q.filt) (by rfl) (by rfl) ?_
 simp only [tZ,↓un_u,simprocAttr,bne_iff_ne,bne_eq_false_iff_eq]
 refine ⟨fun h4=>?_,fun h4=>?_⟩
 ·rw [if_pos h4]
  exact .oA [] []
 rw [if_neg (by rw [h4];simp)]
 refine C1.im (qZ1 s h hL q) (by rfl) (by rfl) ?_
 simp only [tZ,↓un_u,simprocAttr,bne_iff_ne,bne_eq_false_iff_eq]
 refine ⟨fun h5=>?_,fun h5=>?_⟩
 ·rw [if_pos h5]
  exact .oA [] []
 rw [if_neg (by rw [h5];simp)]
 refine C2.im (fun _=>zk2 q.event) (fun _=>rfl) (by rfl) ?_
 simp only [tZ,↓un_u,simprocAttr,tD,bne_iff_ne,bne_eq_false_iff_eq,Bool.not_eq_true',Bool.not_eq_false']
 refine ⟨fun h6=>?_,fun h6=>?_⟩
 ·rw [if_pos (by grind)]
  exact .oA [] []
 ·rw [if_neg (by grind)]
  exact .oA [] []
end Go.Proofs
