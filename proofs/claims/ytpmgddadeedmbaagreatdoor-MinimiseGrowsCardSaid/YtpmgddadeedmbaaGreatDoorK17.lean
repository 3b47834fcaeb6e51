/- A part of the proof: trees of Go values, short forms, contracts. -/
import Derived.WalkKit
import Derived.Still
import Derived.MapKept
import GoSem.Builtin.Cap
import Derived.Laws.Externs
import GoSem.Extern.SlicesOverlaps
import Derived.Carry
import Derived.ProofKit
import Derived.OpenShut
import Derived.HandedShaped
import Derived.Lay
import Derived.LaidLaws
import Derived.MakeChecks
import Derived.SevenTiedAt
import Derived.Test.YtpmgddadeedmbaaGreatDoorChecked
import Derived.Test.YtpmgddadeedmbaaGreatDoorK16
set_option linter.unusedSimpArgs false
set_option linter.unusedVariables false
namespace Go.Proofs
open Go Go.TL
set_option maxHeartbeats 4000000
theorem qf9 {s:Sch} (hE:schE s = 0) {i:Nat} (h1:0 < i) (h2:i < s.cols.length) (hk:(qj s i).kind = 2) {v:Int} (hv:v∈qS s i):qT s i (finI s i) v = v:=by
 have hok:=qZ hE
 obtain ⟨d1,d2⟩:=hok.cdl h2 hk
 have hf:finI s i = zi (qM s i) - 1:=by
  rw [finI,if_neg (by omega),Int.toNat_natCast,if_pos hk]
 have hh:=Ki hk d2 hv
 obtain ⟨j,j1,j2,rfl⟩:=(zR2 d2).1 hv
 rw [qT,if_neg,Int.toNat_natCast,if_pos hk,if_neg (by rw [hh];simp),upC,if_neg,hf,← j2,Int.toNat_natCast,Int.toNat_natCast,zR3 (by omega)]
 ·rw [hf,← j2,Int.toNat_natCast];omega
 ·rw [Bool.not_eq_false,Yy,hf,← j2];omega
theorem jn6 {s:Sch} (hE:schE s = 0) {c:Cnd} (hnd:NdOk s c) (ha:isAt c = true):0≤finI s c.col∧decB s c (finI s c.col).toNat = true:=by
 have hok:=qZ hE
 have hlv:∀ k,isB s c.col k = true→2≤k→∃ i:Nat,c.col = i∧0 < i∧i < s.cols.length∧(qj s i).kind = k:=fun k hb hk=>by
  obtain ⟨b1,b2,b3⟩:=zP.1 hb
  obtain ⟨i,hci⟩:=Int.eq_ofNat_of_zero_le b1
  rw [hci,Int.toNat_natCast] at b3
  refine ⟨i,hci,?_,by omega,b3⟩
  refine Nat.pos_of_ne_zero fun e=>?_
  subst e
  have:=hok.c0
  omega
 have hm:∀ i:Nat,0 < i→i < s.cols.length→(qj s i).kind = 3→finI s i = (qj s i).widths.length∧1≤(qj s i).widths.length:=fun i h1 h2 h3=>by
  refine ⟨by rw [finI,if_neg (by omega),Int.toNat_natCast,if_neg (by omega)],?_⟩
  have:=(zf (hok.cs i h2)).2.2.2.2 h3
  unfold measE at this
  grind
 have hop:c.op = 2∨c.op = 3∨c.op = 4:=by
  unfold isAt at ha
  simp only [Bool.or_eq_true,beq_iff_eq] at ha
  omega
 rcases hop with h | h | h
 ·obtain ⟨i,hci,h1,h2,hk⟩:=hlv 2 (hnd.under h).1 (by omega)
  obtain ⟨d1,d2⟩:=hok.cdl h2 hk
  have hf:finI s i = zi (qM s i) - 1:=by
   rw [finI,if_neg (by omega),Int.toNat_natCast,if_pos hk]
  have hf0:0≤finI s i:=by rw [hf,zw1 d2];omega
  rw [hci]
  refine ⟨hf0,?_⟩
  rw [decB,if_pos h,hci,Int.toNat_natCast,qF3,List.all_eq_true]
  intro j hj
  rw [List.mem_range] at hj
  rw [List.all_eq_true]
  intro k hk2
  rw [List.mem_range] at hk2
  have e:(((finI s i).toNat:Nat):Int) = finI s i:=by omega
  rw [decP,hci,Int.toNat_natCast,e,qk hj,qk (by omega),qf9 hE h1 h2 hk (List.getElem_mem _),qf9 hE h1 h2 hk (List.getElem_mem _)]
  grind
 ·obtain ⟨i,hci,h1,h2,hk⟩:=hlv 3 (hnd.between h).1 (by omega)
  obtain ⟨m1,m2⟩:=hm i h1 h2 hk
  have hw:=hok.wid h2 h1 (by omega) (lev:=(qj s i).widths.length) (by omega)
  rw [hci,m1]
  refine ⟨by omega,?_⟩
  rw [decB,if_neg (by omega),if_neg (by omega),hci,Int.toNat_natCast,Int.toNat_natCast]
  dsimp only
  rw [if_neg (by omega),hw.2.2.2.2.2.2.2]
  simp
 ·obtain ⟨i,hci,h1,h2,hk⟩:=hlv 3 (hnd.miss h).1 (by omega)
  obtain ⟨m1,m2⟩:=hm i h1 h2 hk
  rw [hci,m1]
  refine ⟨by omega,?_⟩
  rw [decB,if_neg (by omega),if_pos h,Int.toNat_natCast]
  exact decide_eq_true (by omega)
theorem qF8 {s:Sch} (hE:schE s = 0) {c:Cnd} (hnd:NdOk s c) (ha:isAt c = true):(decN s c:Int)≤finI s c.col∧decB s c (decN s c) = true∧(∀ m,m < decN s c→decB s c m = false):=by
 obtain ⟨h1,h2⟩:=jn6 hE hnd ha
 have h3:=qf7 (c:=c.col) hE
 obtain ⟨a,b,_,d⟩:=qf6 h2 64 0 (by omega) (by omega)
 unfold decN
 exact ⟨by omega,a,fun m hm=>d m (by omega) hm⟩
def zg5 (s:Sch):List Pk→Cnd→List Pk:=fun l a=>qa9 l a.col (decN s a)
theorem zg6 (s:Sch):∀ (L:List Cnd) (l:List Pk),(L.foldl (zg5 s) l).length≤l.length + L.length
 | [],l=>Nat.le_refl _
 | a :: L,l=>by
   have h1:=zg6 s L (zg5 s l a)
   have h2:=qm4 l a.col (decN s a)
   rw [List.foldl_cons,List.length_cons]
   unfold zg5 at h1 ⊢
   omega
end Go.Proofs
namespace Go.Proofs
open Go Go.TL
set_option maxHeartbeats 4000000
theorem qs0 (s:Sch) (col kind:Int):Spc Tryz.prog JY [schT s,vI col,vI kind] [] (vB (isB s col kind)) []:=by
 by_cases h:0≤col∧col < s.cols.length
 ·obtain ⟨i,rfl⟩:=Int.eq_ofNat_of_zero_le h.1
  have hi:i < s.cols.length:=by omega
  have e1:decide ((i:Int)≥0) = true:=decide_eq_true (by omega)
  have e2:decide ((i:Int) < s.cols.length) = true:=decide_eq_true (by omega)
  have e3:isB s i kind = (s.cols[i].kind == kind):=by
   rw [isB,Int.toNat_natCast,qj,qk hi,decide_eq_true h.1,decide_eq_true h.2];rfl
  refine qd qe9 mixm (by simp) fun e _ hst=>qg ?_
  unfold ZT
  simp only [tZ,↓un_u,simprocAttr,e1,e2,Int.toNat_natCast,qe hi]
  rw [e3]
  refine ⟨by omega,?_⟩
  exact .oA [] []
 ·have e1:(decide (col≥0) && decide (col < (s.cols.length:Int))) = false:=by
   rw [Bool.and_eq_false_iff,decide_eq_false_iff_not,decide_eq_false_iff_not];omega
  have e3:isB s col kind = false:=by
   unfold isB
   rw [show (decide (0≤col) && decide (col < (s.cols.length:Int))) = false from e1];rfl
  rcases Nat.lt_or_ge col.toNat s.cols.length with hk | hk
  ·refine qd qe9 mixm (by simp) fun e _ hst=>qg ?_
   unfold ZT
   simp only [tZ,↓un_u,simprocAttr,e1,qe hk]
   rw [e3]
   exact .oA [] []
  ·have hj:(s.cols.map colT).getD col.toNat .junk = .junk:=qm3 hk
   refine qd qe9 mixm (by simp) fun e _ hst=>qg ?_
   unfold ZT
   simp only [tZ,↓un_u,simprocAttr,e1,hj,List.drop_succ_cons,List.drop_nil]
   rw [e3]
   exact .oA [] []
theorem zg7 (s:Sch) (hs:Ze s) (l:List Pk):Spc Tryz.prog Ye [schT s,vPs l] [] (vI (ZZ s l)) []:=by
 refine qd qT2 mixm (by simp) fun e _ hst=>qg ?_
 unfold KW
 refine sD ?_
 refine ⟨fun h=>?_,fun h=>?_⟩
 ·rw [ZZ,if_pos (by omega)]
  exact .oA [] []
 rw [ZZ,if_neg (by omega)]
 refine qu mixm (α:=Nat) [5,15] (fun i=>i≤l.length∧zx (dimE s l) i = 0) (fun i=>[(5,vI i)]) (fun i=>[(4096,.arr 2 [schT s] false)]) (fun i=>l.length - i) 0 ⟨by omega,rfl⟩ ?_ fun i hi=>?_
 ·exact .oA [(4096,some 4096)] []
 refine sD ?_
 refine ⟨fun h3=>?_,fun h3=>?_⟩
 ·have hi2:i < l.length:=by omega
  have hwi:=qh (i:=i) (by omega)
  have hpi:pkAt l i = l[i]:=by rw [pkAt,qk hi2]
  have hstep:=Qn hi.2 hi2
  have hnext:=jT hi.2
  have hA:dimE s l i = if QC s l[i]≠0 then QC s l[i] else if isB s l[i].col 2 = false then 7 else if ((l.take i).any fun x=>x.col == l[i].col) = true then 10 else 0:=by rw [dimE,hpi]
  simp only [tZ,↓un_u,simprocAttr,Int.toNat_natCast,qe hi2]
  refine ⟨by omega,?_⟩
  refine C1.im (zg0 s hs l[i]) (by rfl) (by rfl) ?_
  simp only [tZ,↓un_u,simprocAttr,bne_iff_ne,bne_eq_false_iff_eq]
  refine ⟨by kernel_rfl,fun h4=>?_,fun h4=>?_⟩
  ·rw [if_pos h4] at hA
   rw [hstep (by rw [hA];exact h4),hA]
   exact .oA [] []
  rw [if_neg (by rw [h4];simp)] at hA
  simp only [tZ,↓un_u,simprocAttr,Int.toNat_natCast,qe hi2]
  refine ⟨by omega,?_⟩
  refine C1.im (qs0 s l[i].col 2) (by rfl) (by rfl) ?_
  simp only [tZ,↓un_u,simprocAttr,Bool.not_eq_true',Bool.not_eq_false']
  refine ⟨by kernel_rfl,fun h5=>?_,fun h5=>?_⟩
  ·rw [if_pos h5] at hA
   rw [hstep (by rw [hA];simp),hA]
   exact .oA [] []
  rw [if_neg (by rw [h5];simp)] at hA
  refine qu mixm (α:=Nat) [7] (fun k=>k≤i∧(l.take k).any (fun x=>x.col == l[i].col) = false) (fun k=>[(7,vI k)]) (fun k=>[(4096,.arr 2 [schT s] false)]) (fun k=>i - k) 0 ⟨by omega,rfl⟩ ?_ fun k hk=>?_
  ·exact .oA [(4096,some 4096)] []
  refine sD ?_
  refine ⟨fun h6=>?_,fun h6=>?_⟩
  ·have hk2:k < l.length:=by omega
   have hwk:=qh (i:=k) (by omega)
   simp only [tZ,↓un_u,simprocAttr,Int.toNat_natCast,qe hi2,qe hk2,hwk]
   refine ⟨by omega,by omega,by kernel_rfl,fun h7=>?_,fun h7=>?_⟩
   ·rw [if_pos (List.any_eq_true.2 ⟨l[k],List.mem_take_iff_getElem.2 ⟨k,by omega,rfl⟩,h7⟩)] at hA
    rw [hstep (by rw [hA];simp),hA]
    exact .oA [] []
   ·refine ⟨k + 1,⟨by omega,zQ hk2 hk.2 h7⟩,by omega,?_⟩
    exact .oA [(4096,some 4096)] []
  ·have hki:k = i:=by omega
   subst hki
   rw [if_neg (by rw [hk.2];simp)] at hA
   simp only [tZ,↓un_u,simprocAttr,hwi]
   refine ⟨k + 1,⟨by omega,by rw [hnext,hA]⟩,by omega,?_⟩
   exact .oA [(4096,some 4096)] []
 ·have hil:i = l.length:=by omega
  subst hil
  rw [hi.2]
  exact .oA [] []
theorem qU3 (s:Sch) (m:Int) (l:List Int):Spc Tryz.prog KG [schT s,vI m,vIs l] [] (vI (ww s m l)) []:=by
 refine qd qK6 mixm (by simp) fun e _ hst=>qg ?_
 unfold JK
 refine sD ?_
 refine ⟨fun h=>?_,fun h=>?_⟩
 ·rw [ww,if_pos (by omega)]
  exact .oA [] []
 rw [ww,if_neg (by omega)]
 refine qu mixm (α:=Nat) [7,15] (fun i=>i≤l.length∧zx (qF4 s m l) i = 0) (fun i=>[(7,vI i)]) (fun i=>[(4096,.arr 2 [schT s] false)]) (fun i=>l.length - i) 0 ⟨by omega,rfl⟩ ?_ fun i hi=>?_
 ·exact .oA [(4096,some 4096)] []
 refine sD ?_
 refine ⟨fun h3=>?_,fun h3=>?_⟩
 ·have hi2:i < l.length:=by omega
  have hwi:=qh (i:=i) (by omega)
  have hpi:l.getD i 0 = l[i]:=qk hi2
  have hstep:=Qn hi.2 hi2
  have hnext:=jT hi.2
  have hA:qF4 s m l i = if isB s l[i] 3 = false then 7 else if l[i] = m∨(l.take i).contains l[i] = true then 10 else 0:=by rw [qF4,hpi]
  have hH:=zm4 (l.take i) l[i] (by rw [List.length_take];omega)
  simp only [tZ,↓un_u,simprocAttr,Int.toNat_natCast,qe hi2]
  refine ⟨by omega,?_⟩
  refine C1.im (qs0 s l[i] 3) (by rfl) (by rfl) ?_
  simp only [tZ,↓un_u,simprocAttr,Bool.not_eq_true',Bool.not_eq_false']
  refine ⟨by kernel_rfl,fun h5=>?_,fun h5=>?_⟩
  ·rw [if_pos h5] at hA
   rw [hstep (by rw [hA];simp),hA]
   exact .oA [] []
  rw [if_neg (by rw [h5];simp)] at hA
  simp only [tZ,↓un_u,simprocAttr,Int.toNat_natCast,qe hi2,WX,qC2]
  refine ⟨by omega,fun _=>by omega,fun _=>by omega,?_⟩
  refine C2.im (fun _=>hH) (fun _=>rfl) (by rfl) ?_
  simp only [tZ,↓un_u,simprocAttr,tD,beq_iff_eq,beq_eq_false_iff_ne,hwi]
  refine ⟨by kernel_rfl,fun h6=>?_,fun h6=>?_⟩
  ·rw [if_pos h6] at hA
   rw [hstep (by rw [hA];simp),hA]
   exact .oA [] []
  ·rw [if_neg (by grind)] at hA
   refine ⟨i + 1,⟨by omega,by rw [hnext,hA]⟩,by omega,?_⟩
   exact .oA [(4096,some 4096)] []
 ·have hil:i = l.length:=by omega
  subst hil
  rw [hi.2]
  exact .oA [] []
theorem zg8 (c:Cnd):Spc Tryz.prog Yc [cnT c] [] (vB (Kl c cnd0)) []:=by
 have h:=zg4 c cnd0 fun h=>.mk c (by rw [h];decide) (by rw [List.length_eq_zero_iff.1 (show c.kids.length = 0 from h)];simp)
 refine qd qS7 mixm (by simp) fun e _ hst=>qg ?_
 unfold KU
 refine sW ?_
 refine C1.shut [] h ?_ (by rfl) rfl ?_
 ·all_goals (try exact clA)
 refine sW ?_
 exact .oA [] []
theorem qU4 (s:Sch) (hE:schE s = 0) (hL:0 < s.lists.length) (q:Qst):Spc Tryz.prog KD [schT s,qstT q] [] (vI (kW s q)) []:=by
 have hok:=qZ hE
 refine qd qJ4 mixm (by simp) fun e _ hst=>qg ?_
 unfold JE
 refine sW ?_
 refine C1.im (qs0 s q.meas 3) (by rfl) (by rfl) ?_
 simp only [tZ,↓un_u,simprocAttr,beq_iff_eq,beq_eq_false_iff_ne]
 refine ⟨fun h=>?_,fun h=>?_⟩
 ·rw [kW,if_pos h]
  refine C1.im (zg7 s hok.sm q.dims) (by rfl) (by rfl) ?_
  simp only [tZ,↓un_u,simprocAttr,bne_iff_ne,bne_eq_false_iff_eq]
  refine ⟨fun h2=>?_,fun h2=>?_⟩
  ·rw [if_pos h2]
   exact .oA [] []
  rw [if_neg (by rw [h2];simp)]
  simp only [tZ,↓un_u,simprocAttr,bne_iff_ne,bne_eq_false_iff_eq,tD,Bool.not_eq_true',Bool.not_eq_false']
  refine ⟨fun h3=>?_,fun h3=>?_⟩
  ·rw [if_pos h3]
   exact .oA [] []
  ·rw [if_neg (by grind)]
   exact .oA [] []
 rw [kW,if_neg h]
 refine ⟨fun h2=>?_,fun h2=>?_⟩
 ·rw [if_pos h2]
  simp only [tZ,↓un_u,simprocAttr,Bool.not_eq_true',Bool.not_eq_false']
  refine ⟨fun h3=>?_,fun h3=>?_⟩
  ·rw [if_pos h3]
   exact .oA [] []
  rw [if_neg (by rw [h3];simp)]
  refine C1.im (qU3 s q.meas q.terms) (by rfl) (by rfl) ?_
  refine sW ?_
  exact .oA [] []
 rw [if_neg h2]
 simp only [tZ,↓un_u,simprocAttr,Bool.not_eq_true',Bool.not_eq_false']
 refine ⟨fun h3=>?_,fun h3=>?_⟩
 ·rw [if_pos h3]
  exact .oA [] []
 rw [if_neg (by rw [h3];simp)]
 obtain ⟨b1,b2,b3⟩:=zP.1 h3
 have hil:q.meas.toNat < s.cols.length:=by omega
 rw [qj,qk hil]
 simp only [tZ,↓un_u,simprocAttr,qe hil,tD]
 refine ⟨by omega,fun h4=>?_,fun h4=>?_⟩
 ·rw [if_pos h4]
  exact .oA [] []
 rw [if_neg h4]
 refine C1.im (Wc s hok.sm hL q.event) (by rfl) (by rfl) ?_
 refine sW ?_
 exact .oA [] []
theorem qw9 (s:Sch) (hs:Ze s) (hL:0 < s.lists.length) (q:Qst):Spc Tryz.prog QL [schT s,qstT q] [] (vI (qstE s q)) []:=by
 refine qd qp7 mixm (by simp) fun e _ hst=>qg ?_
 unfold yZ
 refine sW ?_
 refine C1.im (yG s hs) (by rfl) (by rfl) ?_
 simp only [tZ,↓un_u,simprocAttr,bne_iff_ne,bne_eq_false_iff_eq]
 refine ⟨fun h=>?_,fun h=>?_⟩
 ·rw [qstE,if_pos h]
  exact .oA [] []
 rw [qstE,if_neg (by rw [h];simp)]
 refine C1.im (wS q.name) (by rfl) (by rfl) ?_
 simp only [tZ,↓un_u,simprocAttr,Bool.not_eq_true',Bool.not_eq_false']
 refine ⟨fun h2=>?_,fun h2=>?_⟩
 ·rw [if_pos h2]
  exact .oA [] []
 rw [if_neg (by rw [h2];simp)]
 refine sD ?_
 refine ⟨fun h3=>?_,fun h3=>?_⟩
 ·rw [if_pos (by omega)]
  exact .oA [] []
 rw [if_neg (by omega)]
 refine C1.im (Wc s hs hL q.filt) (by rfl) (by rfl) ?_
 simp only [tZ,↓un_u,simprocAttr,bne_iff_ne,bne_eq_false_iff_eq]
 refine ⟨fun h4=>?_,fun h4=>?_⟩
 ·rw [if_pos h4]
  exact .oA [] []
 rw [if_neg (by rw [h4];simp)]
 refine C1.im (qU4 s h hL q) (by rfl) (by rfl) ?_
 simp only [tZ,↓un_u,simprocAttr,bne_iff_ne,bne_eq_false_iff_eq]
 refine ⟨fun h5=>?_,fun h5=>?_⟩
 ·rw [if_pos h5]
  exact .oA [] []
 rw [if_neg (by rw [h5];simp)]
 refine C2.im (fun _=>zg8 q.event) (fun _=>rfl) (by rfl) ?_
 simp only [tZ,↓un_u,simprocAttr,tD,bne_iff_ne,bne_eq_false_iff_eq,Bool.not_eq_true',Bool.not_eq_false']
 refine ⟨fun h6=>?_,fun h6=>?_⟩
 ·rw [if_pos (by grind)]
  exact .oA [] []
 ·rw [if_neg (by grind)]
  exact .oA [] []
theorem qU5 (s:Sch) (hs:Ze s) (hL:0 < s.lists.length) (d:Dcl):Spc Tryz.prog KC [schT s,dclT d] [] (vI (dclE s d)) []:=by
 refine qd qI2 mixm (by simp) fun e _ hst=>qg ?_
 unfold Jw
 refine sW ?_
 refine C1.im (yG s hs) (by rfl) (by rfl) ?_
 simp only [tZ,↓un_u,simprocAttr,bne_iff_ne,bne_eq_false_iff_eq]
 refine ⟨fun h=>?_,fun h=>?_⟩
 ·rw [dclE,if_pos h]
  exact .oA [] []
 rw [dclE,if_neg (by rw [h];simp)]
 refine C1.im (wS d.proj) (by rfl) (by rfl) ?_
 refine sW ?_
 refine C2.im (fun _=>wS d.src) (fun _=>rfl) (by rfl) ?_
 simp only [tZ,↓un_u,simprocAttr,tD,Bool.not_eq_true',Bool.not_eq_false']
 refine ⟨fun h2=>?_,fun h2=>?_⟩
 ·rw [if_pos h2]
  exact .oA [] []
 rw [if_neg (by grind)]
 refine C1.im (Wc s hs hL d.coh) (by rfl) (by rfl) ?_
 simp only [tZ,↓un_u,simprocAttr,bne_iff_ne,bne_eq_false_iff_eq]
 refine ⟨fun h3=>?_,fun h3=>?_⟩
 ·rw [if_pos h3]
  exact .oA [] []
 rw [if_neg (by rw [h3];simp)]
 refine sD ?_
 refine ⟨fun h4=>?_,fun h4=>?_⟩
 ·rw [if_pos (by unfold smpE;grind)]
  exact .oA [] []
 rw [if_neg (by unfold smpE;grind)]
 refine ⟨fun h5=>?_,fun h5=>?_⟩
 ·rw [if_pos (by omega)]
  exact .oA [] []
 rw [if_neg (by omega)]
 refine qu mixm (α:=Nat) [8,74] (fun i=>i≤d.qs.length∧zx (qsE s d.qs) i = 0) (fun i=>[(8,vI i)]) (fun i=>[(4096,.arr 2 [schT s] false),(4100,.arr 12 [dclT d] false)]) (fun i=>d.qs.length - i) 0 ⟨by omega,rfl⟩ ?_ fun i hi=>?_
 ·exact .oA [(4096,some 4096),(4100,some 4100)] []
 refine sD ?_
 refine ⟨fun h6=>?_,fun h6=>?_⟩
 ·have hi2:i < d.qs.length:=by omega
  have hwi:=qh (i:=i) (by omega)
  have hpi:qAt d.qs i = d.qs[i]:=by rw [qAt,qk hi2]
  have hstep:=Qn hi.2 hi2
  have hnext:=jT hi.2
  have hA:qsE s d.qs i = if qstE s d.qs[i]≠0 then qstE s d.qs[i] else if ((d.qs.take i).any fun x=>eqB x.name d.qs[i].name) = true then 10 else 0:=by rw [qsE,hpi]
  simp only [tZ,↓un_u,simprocAttr,Int.toNat_natCast,qe hi2]
  refine ⟨by omega,?_⟩
  refine C1.im (qw9 s hs hL d.qs[i]) (by rfl) (by rfl) ?_
  simp only [tZ,↓un_u,simprocAttr,bne_iff_ne,bne_eq_false_iff_eq]
  refine ⟨by kernel_rfl,fun h7=>?_,fun h7=>?_⟩
  ·rw [if_pos h7] at hA
   rw [hstep (by rw [hA];exact h7),hA]
   exact .oA [] []
  rw [if_neg (by rw [h7];simp)] at hA
  refine qu mixm (α:=Nat) [10] (fun k=>k≤i∧(d.qs.take k).any (fun x=>eqB x.name d.qs[i].name) = false) (fun k=>[(10,vI k)]) (fun k=>[(4096,.arr 2 [schT s] false),(4100,.arr 12 [dclT d] false)]) (fun k=>i - k) 0 ⟨by omega,rfl⟩ ?_ fun k hk=>?_
  ·exact .oA [(4096,some 4096),(4100,some 4100)] []
  refine sD ?_
  refine ⟨fun h8=>?_,fun h8=>?_⟩
  ·have hk2:k < d.qs.length:=by omega
   have hwk:=qh (i:=k) (by omega)
   simp only [tZ,↓un_u,simprocAttr,Int.toNat_natCast,qe hi2,qe hk2,hwk]
   refine ⟨by omega,by omega,by kernel_rfl,fun h9=>?_,fun h9=>?_⟩
   ·rw [if_pos (List.any_eq_true.2 ⟨d.qs[k],List.mem_take_iff_getElem.2 ⟨k,by omega,rfl⟩,h9⟩)] at hA
    rw [hstep (by rw [hA];simp),hA]
    exact .oA [] []
   ·refine ⟨k + 1,⟨by omega,zQ hk2 hk.2 h9⟩,by omega,?_⟩
    exact .oA [(4096,some 4096),(4100,some 4100)] []
  ·have hki:k = i:=by omega
   subst hki
   rw [if_neg (by rw [hk.2];simp)] at hA
   simp only [tZ,↓un_u,simprocAttr,hwi]
   refine ⟨k + 1,⟨by omega,by rw [hnext,hA]⟩,by omega,?_⟩
   exact .oA [(4096,some 4096),(4100,some 4100)] []
 ·have hil:i = d.qs.length:=by omega
  subst hil
  rw [hi.2]
  exact .oA [] []
end Go.Proofs
namespace Go.Proofs
open Go Go.TL
set_option maxHeartbeats 4000000
theorem qF9:∀ (m l:List Pk),(JP l m).length≤l.length + m.length
 | [],l=>Nat.le_refl _
 | p :: m,l=>by
   have h1:=qF9 m (qa9 l p.col p.lev)
   have h2:=qm4 l p.col p.lev
   unfold JP at h1 ⊢
   rw [List.foldl_cons,List.length_cons]
   omega
theorem qG0 (s:Sch) (c:Cnd):(jS s c).length≤40:=by
 unfold jS
 split
 ·simp
 ·rename_i h
  obtain ⟨hE,k2,k3,k4⟩:=qr9 (Classical.byContradiction h)
  have h1:=qU2 c 41 (by omega) k2
  have h2:=zg6 s (atsC c) []
  simp only [List.length_nil] at h2
  unfold zg5 at h2
  omega
structure QstOk (s:Sch) (q:Qst):Prop where
 sch:schE s = 0
 kind:1≤q.kind∧q.kind≤3
 filt:chkC s q.filt = 0
 dims:q.kind = 1→ZZ s q.dims = 0∧(q.meas = -1∨isB s q.meas 3 = true)
 nd:q.dims.length≤3
 terms:q.kind = 2→isB s q.meas 3 = true∧ww s q.meas q.terms = 0
 nt:q.terms.length≤3
 event:q.kind = 3→isB s q.meas 3 = true∧0≤(qj s q.meas.toNat).low∧chkC s q.event = 0
 d0:q.kind≠1→q.dims = []
 t0:q.kind≠2→q.terms = []
 e0:q.kind≠3→Kl q.event cnd0 = true
theorem qg0 {s:Sch} {q:Qst} (h:qstE s q = 0):QstOk s q:=by
 unfold qstE at h
 split at h
 ·rename_i h1;exact absurd h h1
 rename_i h1
 split at h
 ·cases h
 rename_i h2
 split at h
 ·cases h
 rename_i h3
 split at h
 ·rename_i h4;exact absurd h h4
 rename_i h4
 split at h
 ·rename_i h5;exact absurd h h5
 rename_i h5
 split at h
 ·cases h
 rename_i h6
 have hp:kW s q = 0:=Classical.byContradiction h5
 unfold kW at hp
 have hd:q.kind = 1→ZZ s q.dims = 0∧(q.meas = -1∨isB s q.meas 3 = true):=fun k=>by
  rw [if_pos k] at hp
  grind
 have ht:q.kind = 2→isB s q.meas 3 = true∧ww s q.meas q.terms = 0:=fun k=>by
  rw [if_neg (by omega),if_pos k] at hp
  grind
 have hd0:q.kind≠1→q.dims = []:=fun k=>List.length_eq_zero_iff.1 (by omega)
 have ht0:q.kind≠2→q.terms = []:=fun k=>List.length_eq_zero_iff.1 (by omega)
 refine ⟨Classical.byContradiction h1,by omega,Classical.byContradiction h4,hd,?_,ht,?_,fun k=>?_,hd0,ht0,fun k=>?_⟩
 ·by_cases k:q.kind = 1
  ·have:=(hd k).1
   unfold ZZ at this
   grind
  ·rw [hd0 k];simp
 ·by_cases k:q.kind = 2
  ·have:=(ht k).2
   unfold ww at this
   grind
  ·rw [ht0 k];simp
 ·rw [if_neg (by omega),if_neg (by omega)] at hp
  grind
 ·grind
theorem qP2 (s:Sch):∀ (m l:List Pk),(m.foldl (fun l p=>qa9 l p.col (yH s p.col p.lev)) l).length≤l.length + m.length
 | [],l=>Nat.le_refl _
 | p :: m,l=>by
   have h1:=qP2 s m (qa9 l p.col (yH s p.col p.lev))
   have h2:=qm4 l p.col (yH s p.col p.lev)
   rw [List.foldl_cons,List.length_cons]
   omega
theorem qP3 (s:Sch) (q:Qst):∀ (m:List Nat) (l:List Pk),(m.foldl (qu3 s q) l).length≤l.length + m.length
 | [],l=>Nat.le_refl _
 | k :: m,l=>by
   have h1:=qP3 s q m (qu3 s q l k)
   have h2:(qu3 s q l k).length≤l.length + 1:=by
    unfold qu3
    split
    ·exact qm4 _ _ _
    ·omega
   rw [List.foldl_cons,List.length_cons]
   omega
def zR8 (s:Sch) (q:Qst):List Pk:=if q.kind = 3 then JP (jS s q.filt) (jS s q.event) else jS s q.filt
theorem zB6 (s:Sch) (q:Qst):(zR8 s q).length≤80:=by
 have h1:=qG0 s q.filt
 have h2:=qG0 s q.event
 have h3:=qF9 (jS s q.event) (jS s q.filt)
 unfold zR8
 split <;> omega
theorem qG1 (s:Sch) (q:Qst):(wW s q).length≤100:=by
 unfold wW jn5
 split
 ·simp
 ·rename_i h
  have hq:=qg0 (Classical.byContradiction h)
  have h1:=zB6 s q
  unfold zR8 at h1
  have h2:=qP2 s q.dims (if q.kind = 3 then JP (jS s q.filt) (jS s q.event) else jS s q.filt)
  have h3:=qP3 s q (List.range (s.cols.length - 1)) (q.dims.foldl (fun l p=>qa9 l p.col (yH s p.col p.lev)) (if q.kind = 3 then JP (jS s q.filt) (jS s q.event) else jS s q.filt))
  have h4:=(qZ hq.sch).nc
  have h5:=hq.nd
  rw [List.length_range] at h3
  omega
def jb2 (s:Sch):List Pk→Qst→List Pk:=fun l q=>JP l (wW s q)
theorem zg9 (s:Sch):∀ (m:List Qst) (l:List Pk),(m.foldl (jb2 s) l).length≤l.length + 100 * m.length
 | [],l=>Nat.le_refl _
 | q :: m,l=>by
   have h1:=zg9 s m (jb2 s l q)
   have h2:=qF9 (wW s q) l
   have h3:=qG1 s q
   rw [List.foldl_cons,List.length_cons]
   unfold jb2 at h1 ⊢
   omega
theorem qm5 (s:Sch) (d:Dcl):(zU s d).length≤800:=by
 unfold zU
 split
 ·simp
 ·rename_i h
  have hd:=Yx (Classical.byContradiction h)
  have:=zg9 s d.qs []
  simp only [List.length_nil] at this
  unfold jb2 at this
  omega
end Go.Proofs
namespace Go.Proofs
open Go Go.TL
def hd (r:List Int):Int:=r.getD 0 0
def putS (row:List Int):List (List Int)×Bool→List Int→List (List Int)×Bool:=fun x r=>
 if hd r = hd row then x
 else if hd r > hd row∧x.2 = false then (x.1 ++ [row] ++ [r],true)
 else (x.1 ++ [r],x.2)
def putR (l:List (List Int)) (row:List Int):List (List Int):=
 let x:=l.foldl (putS row) ([],false)
 if x.2 then x.1 else x.1 ++ [row]
def atR (id:Int) (r:List Int):Bool:=decide (0 < r.length) && (hd r == id)
def jt0 (s:Src) (id:Int):Int:=if s.rows.any (atR id) = true then (s.rows.findIdx (atR id):Int) else -1
def asc2 (l:List Int) (i:Nat):Bool:=decide (i = 0) || decide (l.getD (i - 1) 0 < l.getD i 0)
def jn7 (s:Src):Bool:=(List.range s.rows.length).all fun i=>(rowE s.sch (s.rows.getD i []) == 0) && (decide (i = 0) || decide (hd (s.rows.getD (i - 1) []) < hd (s.rows.getD i [])))
def jt1 (s:Src):Bool:=(List.range s.gone.length).all fun i=>decide (1≤s.gone.getD i 0) && decide (s.gone.getD i 0≤1048575) && asc2 s.gone i && decide (jt0 s (s.gone.getD i 0) < 0)
def srcB (s:Src):Bool:=(schE s.sch == 0) && decide (s.rows.length≤200) && decide (s.gone.length≤300) && decide (0≤s.ver) && decide (s.ver≤300) && jn7 s && jt1 s
end Go.Proofs
namespace Go.Proofs
open Go Go.TL
def AscR (l:List (List Int)):Prop:=l.Pairwise fun a b=>hd a < hd b
end Go.Proofs
namespace Go.Proofs
open Go Go.TL
structure SrcOk (s:Src):Prop where
 sch:schE s.sch = 0
 nr:s.rows.length≤200
 ng:s.gone.length≤300
 ver:0≤s.ver∧s.ver≤300
 rows:∀ r∈s.rows,rowE s.sch r = 0
 asc:AscR s.rows
 gone:∀ g∈s.gone,1≤g∧g≤1048575∧jt0 s g < 0
 gasc:s.gone.Pairwise fun a b=>a < b
end Go.Proofs
namespace Go.Proofs
open Go Go.TL
set_option maxHeartbeats 4000000
open So
end Go.Proofs
namespace Go.Proofs
open Go Go.TL
set_option maxHeartbeats 4000000
open So
end Go.Proofs
namespace Go.Proofs
open Go Go.TL
set_option maxRecDepth 4000
def iter {α:Type} (f:α→α):Nat→α→α
 | 0,x=>x
 | n + 1,x=>f (iter f n x)
def tie (p:Int×Int):Int:=p.1 * 1024 + p.2
def cut (n:Int):Int×Int:=(n / 1024,n % 1024)
end Go.Proofs
namespace Go.Proofs
open Go Go.TL
set_option maxHeartbeats 4000000
open So
def drw0 (seed id:Int):Int:=IntKind.u64.wrap (IntKind.u64.wrap (IntKind.u64.wrap (IntKind.u64.wrap seed * 2654435761) + IntKind.u64.wrap (IntKind.u64.wrap id * 40503)) + 97)
def drwA (h:Int):Int:=IntKind.u64.wrap (IntKind.u64.wrap (h * 6364136223846793005) + 1442695040888963407)
def drwX (h:Int):Int:=xorI .u64 (drwA h) (shrI .u64 (drwA h) 29)
def drwI (seed id:Int):Int:=IntKind.i64.wrap (shrI .u64 (iter drwX 3 (drw0 seed id)) 32)
def inS (x:Smp) (id:Int):Bool:=(smpE x == 0) && decide (1≤id) && decide (id≤1048575) && decide ((drwI x.seed id).tmod x.of < x.part)
def ownP (s:Src) (d:Dcl) (r:List Int):Bool:=(jv6 s.sch d.coh r == 1) && inS d.smp (hd r)
def ownR (s:Src) (d:Dcl):List (List Int):=if srcB s = false∨dclE s.sch d≠0 then [] else s.rows.filter (ownP s d)
def ownS (s:Src) (d:Dcl):List Int:=(ownR s d).map hd
end Go.Proofs
namespace Go.Proofs
open Go Go.TL
set_option maxHeartbeats 4000000
def buildE (s:Src) (d:Dcl) (l:List Pk) (k:Int):Int:=if srcB s = false then 13 else if zf9 s.sch d l≠0 then zf9 s.sch d l else if k < 0∨k≥1152921504606846976 then 2 else 0
end Go.Proofs
namespace Go.Proofs
open Go Go.TL
set_option maxRecDepth 4000
set_option maxHeartbeats 4000000
def d36:ByteArray:=⟨#[48,49,50,51,52,53,54,55,56,57,97,98,99,100,101,102,103,104,105,106,107,108,109,110,111,112,113,114,115,116,117,118,119,120,121,122]⟩
theorem qP4 {a b:ByteArray} (h:a.data.toList = b.data.toList):a = b:=by
 cases a;cases b
 exact congrArg ByteArray.mk (Array.ext' h)
def dgS (n:Nat):ByteArray:=⟨#[dgt n]⟩
theorem jt2 (n:Nat) (h:n < 10):d36.extract n (n + 1) = dgS n:=by
 have:((List.range 10).all fun n=>(d36.extract n (n + 1)).data.toList == (dgS n).data.toList) = true:=by decide +kernel
 exact qP4 (eq_of_beq (List.all_eq_true.1 this n (List.mem_range.2 h)))
theorem qm6 (c:UInt8) (n:Nat):(⟨#[c]⟩:ByteArray) ++ dgS n = ⟨#[c,dgt n]⟩:=by
 apply qP4
 rw [ByteArray.toList_data_append]
 rfl
theorem jn8 (n:Nat) (h:n < 10):Spc Tryz.prog jy [vI n] [] (vS (dgS n)) []:=by
 have h1:=qh (i:=n) (by omega)
 have z1:d36.size = 36:=rfl
 refine qd JM mixm (by simp) fun e _ hst=>qg ?_
 unfold jn
 simp only [tZ,↓un_u,simprocAttr,tD,h1,Int.toNat_natCast]
 refine ⟨fun h2=>?_,fun h2=>by omega⟩
 refine ⟨?_,?_⟩
 ·show (0≤(n:Int)∧(n:Int)≤((n + 1:Nat):Int)∧((n + 1:Nat):Int)≤(d36.size:Int))
  omega
 ·show ZD [] (vS (d36.extract n (n + 1))) [] (vS (dgS n)) []
  rw [jt2 n (by omega)]
  exact .oA [] []
theorem qm7 (n:Nat) (h:n < 10):Spc Tryz.prog ji [vI n] [] (vS (dgS n)) []:=by
 have h1:Spc Tryz.prog zD [vI n,vI 10] [] (vS (dgS n)) []:=by
  have e1:decide (0≤(n:Int)) = true:=decide_eq_true (by omega)
  have e2:decide ((n:Int) < 100) = true:=decide_eq_true (by omega)
  refine qd QW mixm (by simp) fun e _ hst=>qg ?_
  unfold zy
  simp only [tZ,↓un_u,simprocAttr,beq_self_eq_true,e1,e2,Bool.true_and]
  refine C1.im (jn8 n h) (by rfl) (by rfl) ?_
  refine sW ?_
  exact .oA [] []
 have h2:Spc Tryz.prog jK [vI n] [] (vS (dgS n)) []:=by
  refine qd Ke mixm (by simp) fun e _ hst=>qg ?_
  unfold jB
  refine sW ?_
  refine C1.im h1 (by rfl) (by rfl) ?_
  refine sW ?_
  exact .oA [] []
 refine qd qC7 mixm (by simp) fun e _ hst=>qg ?_
 unfold ZJ
 refine sW ?_
 refine C1.im h2 (by rfl) (by rfl) ?_
 refine sW ?_
 exact .oA [] []
def oneB (l:List UInt8) (a:Nat) (n:Int):Bool:=(nx l a n).1 == n - 1
theorem wC (l:List UInt8) (a:Nat) (n:Int) (hl:l.length≤400) (ha:a≤l.length) (hn:0≤n∧n≤1000000):Spc Tryz.prog za [.ptr 0 1 0 0,vI n] [(0,oC l a)] (vB (oneB l a n)) [(0,oC l (nx l a n).2)]:=by
 have hw:IntKind.i64.wrap (n - 1) = n - 1:=IntWalk.i64_in _ (by omega)
 refine qd qp5 mixm (by simp) fun e _ hst=>qg ?_
 unfold yY
 refine sW ?_
 refine C1.draw 0 l a _ (jE l a n hl ha hn.2) rfl rfl rfl ?_
 simp only [tZ,↓un_u,simprocAttr,hw]
 rw [show ((nx l a n).1 == n - 1) = oneB l a n from rfl]
 exact .oA [(0,some 0)] []
theorem QD (l:List UInt8) (a:Nat) (n:Int) (hl:l.length≤400) (ha:a≤l.length) (hn:1≤n∧n≤1000000) :
 ∃ v b,0≤v∧v < n∧b≤l.length∧Spc Tryz.prog qw [.ptr 0 1 0 0,vI n] [(0,oC l a)] (vI v) [(0,oC l b)]:=
 ⟨_,_,(Qt l a n hn.1).1,(Qt l a n hn.1).2,qu8 l a n ha,jE l a n hl ha hn.2⟩
theorem Yz (l:List UInt8) (a:Nat) (lo hi:Int) (hl:l.length≤400) (ha:a≤l.length) (hlo : -1000000≤lo∧lo≤1000000) (hhi:lo≤hi∧hi≤lo + 100000) :
 ∃ v b,lo≤v∧v≤hi∧b≤l.length∧Spc Tryz.prog qQ [.ptr 0 1 0 0,vI lo,vI hi] [(0,oC l a)] (vI v) [(0,oC l b)]:=by
 have r:=Qt l a (hi - lo + 1) (by omega)
 exact ⟨_,_,by omega,by omega,qu8 l a (hi - lo + 1) ha,jg l a lo hi hl ha hlo hhi⟩
theorem jb3 (l:List UInt8) (a:Nat) (n:Int) (hl:l.length≤400) (ha:a≤l.length) (hn:0≤n∧n≤1000000) :
 ∃ o b,b≤l.length∧Spc Tryz.prog za [.ptr 0 1 0 0,vI n] [(0,oC l a)] (vB o) [(0,oC l b)]:=
 ⟨_,_,qu8 l a n ha,wC l a n hl ha hn⟩
theorem jn9 (m:Nat) (h:m < 4):wTab.getD m []∈wTab:=by rw [qk (by exact h)];exact List.getElem_mem _
theorem Zg (n:Nat) (l:List UInt8) (a:Nat) (hl:l.length≤400) (ha:a≤l.length) :
 ∃ r:Col×Nat,(DrM n r.1∧r.2≤l.length)∧Spc Tryz.prog kX [.ptr 0 1 0 0,vS ⟨#[109,dgt n]⟩] [(0,oC l a)] (colT r.1) [(0,oC l r.2)]:=by
 have h1:=jg l a (-4) 2 hl ha (by omega) (by omega)
 have r1:=Qt l a (2 - -4 + 1) (by omega)
 have b1:=qu8 l a (2 - -4 + 1) ha
 generalize nx l a (2 - -4 + 1) = x1 at h1 r1 b1
 have h2:=jE l x1.2 4 hl b1 (by omega)
 have r2:=Qt l x1.2 4 (by omega)
 have b2:=qu8 l x1.2 4 b1
 generalize nx l x1.2 4 = x2 at h2 r2 b2
 have h3:=wC l x2.2 3 hl b2 (by omega)
 have b3:=qu8 l x2.2 3 b2
 generalize (nx l x2.2 3).2 = a3 at h3 b3
 generalize oneB l x2.2 3 = o at h3
 have h4:=jE l a3 45 hl b3 (by omega)
 have r4:=Qt l a3 45 (by omega)
 have b4:=qu8 l a3 45 b3
 generalize nx l a3 45 = x4 at h4 r4 b4
 refine ⟨(⟨⟨#[109,dgt n]⟩,3,0,-4 + x1.1,-4 + x1.1 + x4.1,wTab.getD x2.1.toNat [],o⟩,x4.2),⟨⟨rfl,rfl,rfl,by dsimp only;omega,by dsimp only;omega,jn9 _ (by omega)⟩,b4⟩,?_⟩
 obtain ⟨m,hm⟩:=Int.eq_ofNat_of_zero_le r2.1
 have hw:IntKind.i64.wrap (-4 + x1.1 + x4.1) = -4 + x1.1 + x4.1:=IntWalk.i64_in _ (by omega)
 refine qd Yh mixm (by simp) fun e _ hst=>qg ?_
 unfold kA
 refine sW ?_
 refine C1.draw 0 l a _ h1 rfl rfl rfl ?_
 refine sW ?_
 refine C1.draw 0 l x1.2 _ h2 rfl rfl rfl ?_
 rw [hm] at r2 ⊢
 rw [Int.toNat_natCast]
 have hm4:m = 0∨m = 1∨m = 2∨m = 3:=by omega
 have k0:wTab.getD 0 [] = [1]:=rfl
 have k1:wTab.getD 1 [] = [1,5]:=rfl
 have k2:wTab.getD 2 [] = [1,5,20]:=rfl
 have k3:wTab.getD 3 [] = [1,2,4,12]:=rfl
 rcases hm4 with e | e | e | e
 all_goals (
  subst e
  simp only [tZ,↓un_u,simprocAttr,Int.toNat_natCast,k0,k1,k2,k3]
  repeat (refine ⟨by omega,?_⟩)
  refine C1.draw 0 l x2.2 _ h3 rfl rfl rfl ?_
  refine sW ?_
  refine ⟨by kernel_rfl,?_⟩
  refine C1.draw 0 l a3 _ h4 rfl rfl rfl ?_
  simp only [tZ,↓un_u,simprocAttr,hw]
  refine ⟨by kernel_rfl,?_⟩
  )
 ·exact .oA [(0,some 0)] [8204]
 ·exact .oA [(0,some 0)] [8208]
 ·exact .oA [(0,some 0)] [8212]
 ·exact .oA [(0,some 0)] [8216]
def addN (i:Nat):Nat→List Cod→List Cod
 | 0,cs=>cs
 | k + 1,cs=>addN i k (addL cs i)
theorem qG2 (i:Nat):∀ (k:Nat) (cs:List Cod),(List.range k).foldl (fun cs _=>addL cs i) cs = addN i k cs:=by
 have key:∀ (m:List Nat) (cs:List Cod),m.foldl (fun cs _=>addL cs i) cs = addN i m.length cs:=by
  intro m
  induction m with
  | nil=>intro cs;rfl
  | cons x m ih=>intro cs;rw [List.foldl_cons,ih];rfl
 intro k cs
 rw [key,List.length_range]
theorem zh0:∀ (ns:List Nat) (cs:List Cod) (i n:Nat),lefL cs i (ns ++ [n]) = addN (i + ns.length) n (lefL cs i ns)
 | [],cs,i,n=>by rw [List.nil_append,lefL,lefL,qG2];rfl
 | x :: r,cs,i,n=>by rw [List.cons_append,lefL,lefL,zh0 r _ (i + 1) n,List.length_cons,show i + 1 + r.length = i + (r.length + 1) by omega]
theorem zw7 (i:Nat):∀ (k:Nat) (cs:List Cod),(addN i k cs).length = cs.length + k
 | 0,cs=>rfl
 | k + 1,cs=>by rw [addN,zw7 i k,addL,List.length_append];simp;omega
theorem zw8:∀ (ns:List Nat) (cs:List Cod) (i:Nat),(∀ x∈ns,x = 1∨x = 2)→cs.length + ns.length≤(lefL cs i ns).length∧(lefL cs i ns).length≤cs.length + 2 * ns.length
 | [],cs,i,_=>by rw [lefL];simp
 | x :: r,cs,i,h=>by
   have h1:=zw8 r ((List.range x).foldl (fun cs _=>addL cs i) cs) (i + 1) fun y hy=>h y (List.mem_cons_of_mem _ hy)
   rw [qG2,zw7] at h1
   rw [lefL,qG2,List.length_cons]
   have:=h x (by simp)
   omega
theorem Ko (nm:ByteArray) (hnm:nm = zf0∨nm = zf1) (l:List UInt8) (a:Nat) (hl:l.length≤400) (ha:a≤l.length) :
 ∃ r:CodL×Nat,(DrL nm r.1∧r.2≤l.length)∧Spc Tryz.prog kM [.ptr 0 1 0 0,vS nm] [(0,oC l a)] (cdlT r.1) [(0,oC l r.2)]:=by
 have h1:=jg l a 1 3 hl ha (by omega) (by omega)
 have r1:=Qt l a (3 - 1 + 1) (by omega)
 have b1:=qu8 l a (3 - 1 + 1) ha
 generalize nx l a (3 - 1 + 1) = x1 at h1 r1 b1
 obtain ⟨K,hK⟩:=Int.eq_ofNat_of_zero_le (show 0≤1 + x1.1 by omega)
 rw [hK] at h1
 have hK3:1≤K∧K≤3:=by omega
 refine jF qj3 mixm (fun r:CodL×Nat=>cdlT r.1) (fun r=>[(0,oC l r.2)]) (by simp) ?_
 unfold yr
 refine sW ?_
 refine XE.mp (fun _ _=>C1.draw 0 l a _ h1 rfl rfl rfl) ?_
 refine sW ?_
 have hk0:(WG 0).map codT = [.agg [vS ⟨#[116,111,112]⟩,vI (-1)]]:=rfl
 have hkl:∀ i,(WG i).length = i + 1:=fun i=>by simp [WG]
 have hks:∀ i,WG (i + 1) = WG i ++ [kidC i]:=fun i=>by rw [WG,List.range_succ,List.map_append];rfl
 refine XE.loopF mixm [7] (fun i:Nat=>i≤K) (fun i=>[(7,vI i)]) (fun i=>[(0,oC l x1.2),(4096,.arr 2 [cdlT default] false),(8200,.arr 2 ((WG i).map codT) false),(8208,.arr 2 [.agg [vS nm,.asl 8200 (i + 1)]] false)]) (fun i=>K - i) 0 (by omega) (fun e ⟨_,hst⟩=>?_) fun T' i hi ih=>?_
 ·simp only [hk0]
  exact .oA [(0,some 0),(4096,some 4096),(8200,some 8200),(8208,some 8208)] []
 simp only [tZ,↓un_u,simprocAttr,decide_eq_true_eq,decide_eq_false_iff_not]
 refine XE.brN (fun h=>?_) (fun h=>?_)
 ·have hwi:=qh (i:=i) (by omega)
  refine XE.mp (fun _ _=>C1.im (qm7 i (by omega)) (by rfl) (by rfl)) ?_
  simp only [tZ,↓un_u,simprocAttr,hwi]
  refine XE.sd (show 1 + 1≤9223372036854775807 by omega) (XE.sd ⟨hkl i,by omega⟩ (XE.sd (hkl i) (XE.sd (by kernel_rfl) ?_)))
  refine XE.next ih (i + 1) (by omega) (by omega) fun e ⟨_,hst⟩=>?_
  rw [qm6,hks]
  exact .oA [(0,some 0),(4096,some 4096),(8200,some 8200),(8208,some 8208)] []
 ·have hiK:i = K:=by omega
  subst hiK
  have h2:=wC l x1.2 2 hl b1 (by omega)
  have b2:=qu8 l x1.2 2 b1
  generalize (nx l x1.2 2).2 = a2 at h2 b2
  generalize oneB l x1.2 2 = o at h2
  refine XE.mp (fun _ _=>C1.draw 0 l x1.2 _ h2 rfl rfl rfl) ?_
  refine sW ?_
  refine XE.brB (fun h3=>?_) (fun h3=>?_)
  ·refine XE.fin (⟨nm,WG i⟩,a2) ⟨⟨rfl,(zQ9 hnm hK3).1,by rw [hkl];omega⟩,b2⟩ fun e ⟨_,hst⟩=>?_
   have hkli:=hkl i
   refine ⟨hkl i,?_⟩
   exact .oA [(0,some 0)] [8200]
  ·refine XE.loopF mixm [8] (fun y:List Nat×Nat=>y.1.length≤i∧(∀ x∈y.1,x = 1∨x = 2)∧y.2≤l.length) (fun y=>[(8,vI y.1.length)]) (fun y=>[(0,oC l y.2),(4096,.arr 2 [cdlT default] false),(8200,.arr 2 ((lefL (WG i) 0 y.1).map codT) false),(8208,.arr 2 [.agg [vS nm,.asl 8200 (lefL (WG i) 0 y.1).length]] false)]) (fun y=>i - y.1.length) ([],a2) ⟨by simp,by simp,b2⟩ (fun e ⟨_,hst⟩=>?_) fun T2 y hy ih2=>?_
   ·have hkli:=hkl i
    simp only [lefL]
    refine .of [(0,some 0),(4096,some 4096),(8200,some 8200),(8208,some 8208)] [] rfl (by first | rfl | (rw [hst];rfl)) ?_ ?_
    all_goals (try simp only [tL,simprocAttr,List.map_append,List.map_cons,List.map_nil,List.cons_append,List.nil_append,hkl])
    all_goals (try (repeat' (first | exact qR | (apply zd;intro _;exact ⟨rfl,rfl⟩) | (apply qz;intro _;exact ⟨rfl,rfl⟩) | with_reducible apply qG | with_reducible refine qE ⟨rfl,rfl⟩ ?_ | exact qO | with_reducible apply qA | with_reducible refine qJ ⟨rfl,rfl,?_⟩ ?_ | with_reducible apply And.intro | exact qD rfl | exact qD (by assumption) | (refine ⟨⟨?_,rfl,?_,rfl,?_⟩,trivial⟩ <;> first | (simp;done) | (apply qz;intro _;exact ⟨rfl,rfl⟩)) | trivial | rfl | (rw [qh (by omega)]) | omega)))
   obtain ⟨ns,a3⟩:=y
   obtain ⟨y1,y2,y3⟩:=hy
   dsimp only at y1 y2 y3
   have hll:=zw8 ns (WG i) 0 y2
   rw [hkl] at hll
   simp only [tZ,↓un_u,simprocAttr,decide_eq_true_eq,decide_eq_false_iff_not]
   refine XE.brN (fun h4=>?_) (fun h4=>?_)
   ·have h5:=jg l a3 1 2 hl y3 (by omega) (by omega)
    have r5:=Qt l a3 (2 - 1 + 1) (by omega)
    have b5:=qu8 l a3 (2 - 1 + 1) y3
    generalize nx l a3 (2 - 1 + 1) = x5 at h5 r5 b5
    obtain ⟨M,hM⟩:=Int.eq_ofNat_of_zero_le (show 0≤1 + x5.1 by omega)
    rw [hM] at h5
    have hsn:=zh0 ns (WG i) 0 M
    rw [Nat.zero_add] at hsn
    refine XE.mp (fun _ _=>C1.draw 0 l a3 _ h5 rfl rfl rfl) ?_
    refine sW ?_
    generalize lefL (WG i) 0 ns = cs at hll hsn ⊢
    refine XE.loopF mixm [9] (fun z:Nat×List Cod=>addN ns.length z.1 z.2 = addN ns.length M cs∧z.2.length + z.1 = cs.length + M) (fun z=>[(9,vI z.1)]) (fun z=>[(0,oC l x5.2),(4096,.arr 2 [cdlT default] false),(8200,.arr 2 (z.2.map codT) false),(8208,.arr 2 [.agg [vS nm,.asl 8200 z.2.length]] false)]) (fun z=>z.1) (M,cs) ⟨rfl,rfl⟩ (fun e ⟨_,hst⟩=>?_) fun T3 z hz ih3=>?_
    ·exact .oA [(0,some 0),(4096,some 4096),(8200,some 8200),(8208,some 8208)] []
    obtain ⟨k,ds⟩:=z
    obtain ⟨z1,z2⟩:=hz
    dsimp only at z1 z2
    simp only [tZ,↓un_u,simprocAttr,decide_eq_true_eq,decide_eq_false_iff_not]
    refine XE.brN (fun h6=>?_) (fun h6=>?_)
    ·have hwn:=qh (i:=ns.length) (by omega)
     have hwk:=yb (i:=k) (by omega) (by omega)
     have hw1:IntKind.i64.wrap (1 + (ns.length:Int)) = 1 + (ns.length:Int):=IntWalk.i64_in _ (by omega)
     refine XE.mp (fun _ _=>C1.im (qm7 ds.length (by omega)) (by rfl) (by rfl)) ?_
     simp only [tZ,↓un_u,simprocAttr,hwk,hw1]
     refine XE.sd (show 1 + 1≤9223372036854775807 by omega) (XE.sd (by omega) (XE.sd (by kernel_rfl) ?_))
     refine XE.next ih3 (k - 1,addL ds ns.length) ⟨?_,by dsimp only;rw [addL,List.length_append];simp;omega⟩ (by dsimp only;omega) fun e ⟨_,hst⟩=>?_
     ·dsimp only
      rw [← z1]
      obtain ⟨j,rfl⟩:∃ j,k = j + 1:=⟨k - 1,by omega⟩
      rfl
     ·rw [qm6]
      have e1:addL ds ns.length = ds ++ [⟨⟨#[108,dgt ds.length]⟩,1 + (ns.length:Int)⟩]:=rfl
      rw [e1]
      exact .oA [(0,some 0),(4096,some 4096),(8200,some 8200),(8208,some 8208)] []
    ·have hk0:k = 0:=by omega
     subst hk0
     have hwn:=qh (i:=ns.length) (by omega)
     rw [addN,← hsn] at z1
     simp only [tZ,↓un_u,simprocAttr,hwn]
     refine XE.next ih2 (ns ++ [M],x5.2) ⟨by simp;omega,fun x hx=>?_,b5⟩ (by simp;omega) fun e ⟨_,hst⟩=>?_
     ·rcases List.mem_append.1 hx with hx | hx
      ·exact y2 x hx
      ·rw [List.mem_singleton.1 hx];omega
     ·simp only [z1,List.length_append,List.length_cons,List.length_nil]
      rw [← z1]
      exact .oA [(0,some 0),(4096,some 4096),(8200,some 8200),(8208,some 8208)] []
   ·have hni:ns.length = i:=by omega
    have hok:=(zQ9 hnm hK3).2 ns hni y2
    refine XE.fin (⟨nm,lefL (WG i) 0 ns⟩,a3) ⟨⟨rfl,hok,by dsimp only;omega⟩,y3⟩ fun e ⟨_,hst⟩=>?_
    exact .oA [(0,some 0)] [8200]
end Go.Proofs
namespace Go.Proofs
open Go Go.TL
set_option maxRecDepth 4000
set_option maxHeartbeats 4000000
theorem qg1 (l:List UInt8) (a:Nat) (hl:l.length≤400) (ha:a≤l.length) :
 ∃ r:Sch×Nat,(DrS r.1∧r.2≤l.length)∧Spc Tryz.prog wD [.ptr 0 1 0 0] [(0,oC l a)] (schT r.1) [(0,oC l r.2)]:=by
 obtain ⟨⟨A,a1⟩,⟨dA,ha1⟩,sA⟩:=Ko zf0 (.inl rfl) l a hl ha
 obtain ⟨⟨B,a2⟩,⟨dB,ha2⟩,sB⟩:=Ko zf1 (.inr rfl) l a1 hl ha1
 dsimp only at dA ha1 sA dB ha2 sB
 have h1:=wC l a2 2 hl ha2 (by omega)
 have b1:=qu8 l a2 2 ha2
 generalize (nx l a2 2).2 = a3 at h1 b1
 generalize oneB l a2 2 = o at h1
 have h2:=jg l a3 1 3 hl b1 (by omega) (by omega)
 have r2:=Qt l a3 (3 - 1 + 1) (by omega)
 have b2:=qu8 l a3 (3 - 1 + 1) b1
 generalize nx l a3 (3 - 1 + 1) = x2 at h2 r2 b2
 obtain ⟨N,hN⟩:=Int.eq_ofNat_of_zero_le (show 0≤1 + x2.1 by omega)
 rw [hN] at h2
 refine jF YW mixm (fun r:Sch×Nat=>schT r.1) (fun r=>[(0,oC l r.2)]) (by simp) ?_
 unfold wh
 refine sW ?_
 refine XE.mp (fun _ _=>C1.draw 0 l a _ sA rfl rfl rfl) ?_
 refine sW ?_
 refine XE.mp (fun _ _=>C1.draw 0 l a1 _ sB rfl rfl rfl) ?_
 refine sW ?_
 refine XE.mp (fun _ _=>C1.draw 0 l a2 _ h1 rfl rfl rfl) ?_
 refine sW ?_
 refine XE.brB (fun ho=>?_) (fun ho=>?_)
 ·refine XE.mp (fun _ _=>C1.draw 0 l a3 _ h2 rfl rfl rfl) ?_
  refine sW ?_
  refine XE.loopF mixm [4,15] (fun y:List Col×Nat=>y.1.length≤N∧(∀ i (h:i < y.1.length),DrM (3 + i) y.1[i])∧y.2≤l.length) (fun y=>[(4,vI ((N - y.1.length:Nat):Int))]) (fun y=>[(0,oC l y.2),(4096,.arr 2 [schT default] false),(8208,.arr 2 [cdlT A,cdlT B] false),(8220,.arr 7 (([whoC,sexC,jobC] ++ y.1).map colT) false),(8228,.arr 2 [.agg [.asl 8208 2,.asl 8220 (3 + y.1.length)]] false)]) (fun y=>N - y.1.length) ([],x2.2) ⟨by simp,fun i h=>by simp at h,b2⟩ (fun e ⟨_,hst⟩=>?_) fun T' y hy ih=>?_
  ·show Le _ _ ⟨[(4,vI N),(0,_),(2,_),(3,_)],[(0,oC l x2.2),(4096,.arr 2 [schT default] false),(8208,.arr 2 [cdlT A,cdlT B] false),(8220,.arr 7 [colT whoC,colT sexC,colT jobC] false),(8228,.arr 2 [.agg [.asl 8208 2,.asl 8220 3]] false)]⟩
   exact .oA [(0,some 0),(4096,some 4096),(8208,some 8208),(8220,some 8220),(8228,some 8228)] []
  obtain ⟨ms,a4⟩:=y
  obtain ⟨y1,y2,y3⟩:=hy
  dsimp only at y1 y2 y3
  simp only [tZ,↓un_u,simprocAttr,decide_eq_true_eq,decide_eq_false_iff_not]
  refine XE.brN (fun h4=>?_) (fun h4=>?_)
  ·have hlt:ms.length < N:=by omega
   have hI:=qm7 (3 + ms.length) (by omega)
   obtain ⟨⟨M,a5⟩,⟨dM,ha5⟩,sM⟩:=Zg (3 + ms.length) l a4 hl y3
   dsimp only at dM ha5 sM
   have hwk:=yb (i:=N - ms.length) (by omega) (by omega)
   refine XE.sd (by omega) ?_
   refine XE.mp (fun _ _=>C1.im hI (by rfl) (by rfl)) ?_
   simp only [tZ,↓un_u,simprocAttr,qm6]
   refine XE.sd (show 1 + 1≤9223372036854775807 by omega) ?_
   refine XE.mp (fun _ _=>C1.draw 0 l a4 _ sM rfl rfl rfl) ?_
   simp only [tZ,↓un_u,simprocAttr,hwk]
   refine XE.sd (by omega) (XE.sd (by omega) (XE.sd (by kernel_rfl) ?_))
   refine XE.next ih (ms ++ [M],a5) ⟨by simp;omega,fun i h=>?_,ha5⟩ (by simp;omega) fun e ⟨_,hst⟩=>?_
   ·dsimp only at h ⊢
    by_cases hi:i < ms.length
    ·rw [List.getElem_append_left hi]
     exact y2 i hi
    ·have he:i = ms.length:=by rw [List.length_append] at h;simp at h;omega
     subst he
     rw [List.getElem_append_right (Nat.le_refl _)]
     simpa using dM
   ·have e1:N - (ms ++ [M]).length = N - ms.length - 1:=by rw [List.length_append];simp;omega
    simp only [e1]
    exact .oA [(0,some 0),(4096,some 4096),(8208,some 8208),(8220,some 8220),(8228,some 8228)] []
  ·have hnl:ms.length = N:=by omega
   refine XE.fin (⟨[A,B],[whoC,sexC,jobC] ++ ms⟩,a4) ⟨⟨⟨A,B,rfl,dA,dB⟩,⟨ms,.inr ⟨rfl,y2⟩,by omega,by omega⟩⟩,y3⟩ fun e ⟨_,hst⟩=>?_
   refine ⟨by omega,?_⟩
   exact .oA [(0,some 0)] [8208,8220]
 ·refine XE.mp (fun _ _=>C1.draw 0 l a3 _ h2 rfl rfl rfl) ?_
  refine sW ?_
  refine XE.loopF mixm [4,15] (fun y:List Col×Nat=>y.1.length≤N∧(∀ i (h:i < y.1.length),DrM (2 + i) y.1[i])∧y.2≤l.length) (fun y=>[(4,vI ((N - y.1.length:Nat):Int))]) (fun y=>[(0,oC l y.2),(4096,.arr 2 [schT default] false),(8208,.arr 2 [cdlT A,cdlT B] false),(8220,.arr 7 (([whoC,sexC] ++ y.1).map colT) false),(8228,.arr 2 [.agg [.asl 8208 2,.asl 8220 (2 + y.1.length)]] false)]) (fun y=>N - y.1.length) ([],x2.2) ⟨by simp,fun i h=>by simp at h,b2⟩ (fun e ⟨_,hst⟩=>?_) fun T' y hy ih=>?_
  ·show Le _ _ ⟨[(4,vI N),(0,_),(2,_),(3,_)],[(0,oC l x2.2),(4096,.arr 2 [schT default] false),(8208,.arr 2 [cdlT A,cdlT B] false),(8220,.arr 7 [colT whoC,colT sexC] false),(8228,.arr 2 [.agg [.asl 8208 2,.asl 8220 2]] false)]⟩
   exact .oA [(0,some 0),(4096,some 4096),(8208,some 8208),(8220,some 8220),(8228,some 8228)] []
  obtain ⟨ms,a4⟩:=y
  obtain ⟨y1,y2,y3⟩:=hy
  dsimp only at y1 y2 y3
  simp only [tZ,↓un_u,simprocAttr,decide_eq_true_eq,decide_eq_false_iff_not]
  refine XE.brN (fun h4=>?_) (fun h4=>?_)
  ·have hlt:ms.length < N:=by omega
   have hI:=qm7 (2 + ms.length) (by omega)
   obtain ⟨⟨M,a5⟩,⟨dM,ha5⟩,sM⟩:=Zg (2 + ms.length) l a4 hl y3
   dsimp only at dM ha5 sM
   have hwk:=yb (i:=N - ms.length) (by omega) (by omega)
   refine XE.sd (by omega) ?_
   refine XE.mp (fun _ _=>C1.im hI (by rfl) (by rfl)) ?_
   simp only [tZ,↓un_u,simprocAttr,qm6]
   refine XE.sd (show 1 + 1≤9223372036854775807 by omega) ?_
   refine XE.mp (fun _ _=>C1.draw 0 l a4 _ sM rfl rfl rfl) ?_
   simp only [tZ,↓un_u,simprocAttr,hwk]
   refine XE.sd (by omega) (XE.sd (by omega) (XE.sd (by kernel_rfl) ?_))
   refine XE.next ih (ms ++ [M],a5) ⟨by simp;omega,fun i h=>?_,ha5⟩ (by simp;omega) fun e ⟨_,hst⟩=>?_
   ·dsimp only at h ⊢
    by_cases hi:i < ms.length
    ·rw [List.getElem_append_left hi]
     exact y2 i hi
    ·have he:i = ms.length:=by rw [List.length_append] at h;simp at h;omega
     subst he
     rw [List.getElem_append_right (Nat.le_refl _)]
     simpa using dM
   ·have e1:N - (ms ++ [M]).length = N - ms.length - 1:=by rw [List.length_append];simp;omega
    simp only [e1]
    exact .oA [(0,some 0),(4096,some 4096),(8208,some 8208),(8220,some 8220),(8228,some 8228)] []
  ·have hnl:ms.length = N:=by omega
   refine XE.fin (⟨[A,B],[whoC,sexC] ++ ms⟩,a4) ⟨⟨⟨A,B,rfl,dA,dB⟩,⟨ms,.inl ⟨rfl,y2⟩,by omega,by omega⟩⟩,y3⟩ fun e ⟨_,hst⟩=>?_
   refine ⟨by omega,?_⟩
   exact .oA [(0,some 0)] [8208,8220]
end Go.Proofs
namespace Go.Proofs
open Go Go.TL
set_option maxRecDepth 4000
set_option maxHeartbeats 4000000
theorem DrS.col {s:Sch} (h:DrS s) {i:Nat} (hi:i < s.cols.length) (hk:(qj s i).kind = 3):∃ n,DrM n (qj s i):=by
 obtain ⟨ms,hc,h1,h3⟩:=h.cs
 have key:∀ (pre:List Col) (n:Nat),(∀ c∈pre,c.kind≠3)→s.cols = pre ++ ms→(∀ j (hj:j < ms.length),DrM (n + j) ms[j])→∃ n,DrM n (qj s i):=by
  intro pre n hp he hm
  rw [qj,qk hi] at hk ⊢
  by_cases c:i < pre.length
  ·have e:s.cols[i] = pre[i]:=by simp only [he];exact List.getElem_append_left c
   rw [e] at hk
   exact absurd hk (hp _ (List.getElem_mem c))
  ·have hl:i - pre.length < ms.length:=by rw [he,List.length_append] at hi;omega
   have e:s.cols[i] = ms[i - pre.length]:=by simp only [he];exact List.getElem_append_right (by omega)
   rw [e]
   exact ⟨_,hm _ hl⟩
 rcases hc with ⟨hc,hm⟩ | ⟨hc,hm⟩
 ·exact key [whoC,sexC] 2 (by simp [whoC,sexC]) (by rw [hc];rfl) hm
 ·exact key [whoC,sexC,jobC] 3 (by simp [whoC,sexC,jobC]) (by rw [hc];rfl) hm
theorem DrS.nl {s:Sch} (h:DrS s):s.lists.length = 2:=by
 obtain ⟨a,b,e,_⟩:=h.ls
 rw [e];rfl
structure DrX (x:Src):Prop where
 sch:DrS x.sch
 ok:SrcOk x
 gone:x.gone = []
 ver:x.ver = 0
end Go.Proofs
namespace Go.Proofs
open Go Go.TL
set_option maxRecDepth 4000
set_option maxHeartbeats 4000000
def We (s:Sch) (kind:Int) (n:Nat):List Int:=List.map (fun i:Nat=>(i:Int)) ((List.range n).filter fun i=>(qj s i).kind == kind)
theorem jX (s:Sch) (kind:Int) (n:Nat):We s kind (n + 1) = We s kind n ++ (if (qj s n).kind = kind then [(n:Int)] else []):=by
 unfold We
 rw [List.range_succ,List.filter_append,List.map_append]
 congr 1
 by_cases h:(qj s n).kind = kind
 ·rw [if_pos h,List.filter_cons,if_pos (beq_iff_eq.2 h)];rfl
 ·rw [if_neg h,List.filter_cons,if_neg (by rw [beq_iff_eq];exact h)];rfl
theorem qm8 (s:Sch) (kind:Int) (n:Nat):(We s kind n).length≤n:=by
 unfold We
 rw [List.length_map]
 exact Nat.le_trans (List.length_filter_le _ _) (by simp)
def JQ (s:Sch) (kind:Int):List Int:=We s kind s.cols.length
theorem Ja {s:Sch} {kind v:Int}:v∈JQ s kind↔isB s v kind = true:=by
 unfold JQ We
 rw [zP]
 simp only [List.mem_map,List.mem_filter,List.mem_range,beq_iff_eq]
 constructor
 ·rintro ⟨i,⟨h1,h2⟩,rfl⟩;exact ⟨by omega,by omega,by rw [Int.toNat_natCast];exact h2⟩
 ·rintro ⟨h1,h2,h3⟩;exact ⟨v.toNat,⟨by omega,h3⟩,by omega⟩
theorem Qx (s:Sch) (kind:Int) (hn:s.cols.length≤1000):Spc Tryz.prog jW [schT s,vI kind] [] (vIs (JQ s kind)) []:=by
 refine qd qD7 mixm (by simp) fun e _ hst=>qg ?_
 unfold ZQ
 refine sW ?_
 refine qu mixm (α:=Nat) [5,10] (fun i=>i≤s.cols.length) (fun i=>[(5,.asl 1 (We s kind i).length),(10,vI i)]) (fun i=>[(4096,.arr 2 [schT s] false),(1,.arr 1 ((We s kind i).map vI) false)]) (fun i=>s.cols.length - i) 0 (by omega) ?_ fun i hi=>?_
 ·show Le _ _ ⟨_,[(4096,.arr 2 [schT s] false),(1,.arr 1 [] false)]⟩
  exact .oA [(4096,some 4096),(1,none)] []
 have hfl:=qm8 s kind i
 refine sD ?_
 refine ⟨fun h=>?_,fun h=>?_⟩
 ·have hi2:i < s.cols.length:=by omega
  have hwi:=qh (i:=i) (by omega)
  have hat:qj s i = s.cols[i]:=by rw [qj,qk hi2]
  have hsu:=jX s kind i
  rw [hat] at hsu
  simp only [tZ,↓un_u,simprocAttr,Int.toNat_natCast,qe hi2,hwi,beq_iff_eq,beq_eq_false_iff_ne]
  refine ⟨by omega,fun h2=>?_,fun h2=>?_⟩
  ·rw [if_pos h2] at hsu
   refine ⟨by omega,i + 1,by omega,by omega,?_⟩
   rw [hsu]
   exact .oA [(4096,some 4096),(1,some 1)] []
  ·rw [if_neg h2,List.append_nil] at hsu
   refine ⟨i + 1,by omega,by omega,?_⟩
   rw [hsu]
   exact .oA [(4096,some 4096),(1,some 1)] []
 ·have hil:i = s.cols.length:=by omega
  subst hil
  exact .oA [] [1]
theorem DrS.code {s:Sch} (h:DrS s):0 < (JQ s 2).length∧(JQ s 2).length≤8:=by
 have hnc:=(qZ h.ok).nc
 have hl:=qm8 s 2 s.cols.length
 refine ⟨List.length_pos_of_mem (a:=1) (Ja.2 (zP.2 ?_)),by unfold JQ;omega⟩
 obtain ⟨ms,hc,h1,h3⟩:=h.cs
 rcases hc with ⟨hc,hm⟩ | ⟨hc,hm⟩
 ·refine ⟨by omega,by rw [hc];simp;omega,by rw [qj,hc];rfl⟩
 ·refine ⟨by omega,by rw [hc];simp;omega,by rw [qj,hc];rfl⟩
theorem DrS.meas {s:Sch} (h:DrS s):0 < (JQ s 3).length∧(JQ s 3).length≤8:=by
 have hnc:=(qZ h.ok).nc
 have hl:=qm8 s 3 s.cols.length
 refine ⟨?_,by unfold JQ;omega⟩
 obtain ⟨ms,hc,h1,h3⟩:=h.cs
 rcases hc with ⟨hc,hm⟩ | ⟨hc,hm⟩
 ·refine List.length_pos_of_mem (a:=2) (Ja.2 (zP.2 ⟨by omega,by rw [hc];simp;omega,?_⟩))
  have:=(hm 0 h1).kind
  rw [qj,hc]
  show ((whoC :: sexC :: ms).getD 2 default).kind = 3
  rw [qk (by simp;omega)]
  exact this
 ·refine List.length_pos_of_mem (a:=3) (Ja.2 (zP.2 ⟨by omega,by rw [hc];simp;omega,?_⟩))
  have:=(hm 0 h1).kind
  rw [qj,hc]
  show ((whoC :: sexC :: jobC :: ms).getD 3 default).kind = 3
  rw [qk (by simp;omega)]
  exact this
theorem zR9 (s:Sch) (hd:DrS s) (l:List UInt8) (a:Nat) (hl:l.length≤400) (ha:a≤l.length) :
 ∃ (v:Nat) (b:Nat),isB s v 2 = true∧b≤l.length∧Spc Tryz.prog yh [.ptr 0 1 0 0,schT s] [(0,oC l a)] (vI v) [(0,oC l b)]:=by
 have hnc:=(qZ hd.ok).nc
 have hc:=Qx s 2 (by omega)
 have hm:=fun v=>(Ja (s:=s) (kind:=2) (v:=v)).1
 obtain ⟨k1,k2⟩:=hd.code
 generalize JQ s 2 = L at hc hm k1 k2
 obtain ⟨j,b,j1,j2,hb,sN⟩:=QD l a L.length hl ha (by omega)
 obtain ⟨m,rfl⟩:=Int.eq_ofNat_of_zero_le j1
 have hmL:m < L.length:=by omega
 have hv:=hm _ (List.getElem_mem hmL)
 obtain ⟨v,e⟩:=Int.eq_ofNat_of_zero_le (zP.1 hv).1
 refine ⟨v,b,by rw [← e];exact hv,hb,?_⟩
 rw [← e]
 refine qd qe5 mixm (by simp) fun e _ hst=>qg ?_
 unfold wM
 refine sW ?_
 refine C1.im hc (by rfl) (by rfl) ?_
 refine sW ?_
 refine C1.draw 0 l a _ sN rfl rfl rfl ?_
 simp only [tZ,↓un_u,simprocAttr,Int.toNat_natCast,qe hmL]
 refine ⟨by omega,?_⟩
 exact .oA [(0,some 0)] []
theorem Qo (s:Sch) (hd:DrS s) (l:List UInt8) (a:Nat) (hl:l.length≤400) (ha:a≤l.length) :
 ∃ (v:Nat) (b:Nat),isB s v 3 = true∧b≤l.length∧Spc Tryz.prog zp [.ptr 0 1 0 0,schT s] [(0,oC l a)] (vI v) [(0,oC l b)]:=by
 have hnc:=(qZ hd.ok).nc
 have hc:=Qx s 3 (by omega)
 have hm:=fun v=>(Ja (s:=s) (kind:=3) (v:=v)).1
 obtain ⟨k1,k2⟩:=hd.meas
 generalize JQ s 3 = L at hc hm k1 k2
 obtain ⟨j,b,j1,j2,hb,sN⟩:=QD l a L.length hl ha (by omega)
 obtain ⟨m,rfl⟩:=Int.eq_ofNat_of_zero_le j1
 have hmL:m < L.length:=by omega
 have hv:=hm _ (List.getElem_mem hmL)
 obtain ⟨v,e⟩:=Int.eq_ofNat_of_zero_le (zP.1 hv).1
 refine ⟨v,b,by rw [← e];exact hv,hb,?_⟩
 rw [← e]
 refine qd Wx mixm (by simp) fun e _ hst=>qg ?_
 unfold kh
 refine sW ?_
 refine C1.im hc (by rfl) (by rfl) ?_
 refine sW ?_
 refine C1.draw 0 l a _ sN rfl rfl rfl ?_
 simp only [tZ,↓un_u,simprocAttr,Int.toNat_natCast,qe hmL]
 refine ⟨by omega,?_⟩
 exact .oA [(0,some 0)] []
end Go.Proofs
